/- Texts of this claim, put together: N1 X4. -/
import Derived.Test.YtfihpofdoffclaaGreatDoorZza
import Derived.Test.YtfihpofdoffclaaGreatDoorZx

/- A clone of a row of words; a row of words without its first. -/
namespace Go.Proofs.YtfihpofdoffclaaGreatDoor
open Go.RowKit

theorem cloneWd {w : World} {B : Nat} {v : Value} {P : List (List (List Int))} (h : OwX 45 1 EWd w B v P.length P) (h0 : 0 < P.length) (hn : P.length ≤ 1000000) :
    Calls Tryz.prog 30 #[v] w fun e w' => ∃ u, e = .returned u ∧ OwX 45 1 EWd w' w.heap.size u P.length P ∧ Below w.heap.size w w' := by
  obtain ⟨g, cap, rfl, _⟩ := h.form h0
  obtain ⟨vs, h1, h2, h3, h4⟩ := h
  have hvl : vs.length = P.length * 1 := h1.1
  refine (cloneRs ⟨g, 0, none⟩ P.length cap vs hvl hn (fun j u hj => ?_) h3).mono ?_
  · have hjl := (List.getElem?_eq_some_iff.1 hj).1
    have := World.ownsRow.cellAt h1 j (by omega)
    rw [show (⟨g, 0, none⟩ : Addr).add j = ⟨g, j, none⟩ by (simp [Addr.add]; try omega), this]
    exact hj
  · rintro e w' ⟨u, rfl, k1, k2⟩
    exact ⟨u, rfl, ⟨vs, k1, h2, h3, fun j x hj => EWd.stab (by decide) _ _ _ _ (h4 j x hj) (KeepX.below (E := 24) k2)⟩, k2⟩
/-- The slice [1:] of a row of words. -/
theorem OwX.tail7 {w : World} {B g cap : Nat} {P : List (List (List Int))} (h : OwX 45 1 EWd w B (.slice (some ⟨g, 0, none⟩) P.length cap) P.length P) (h0 : 0 < P.length) (hn : P.length ≤ 5864062014805) (hl : ∀ x ∈ P, x.length ≤ 2199023255552) {a : Addr} (ha : 1 < P.length → a = ⟨g, 1, none⟩) (c : Nat) :
    KSS 7 w (.slice (some a) (P.length - 1) c) (P.drop 1) := by
  by_cases h1 : 1 < P.length
  · rw [ha h1]
    refine ⟨some ⟨g, 1, none⟩, c, g, 1, by rw [List.length_drop], fun _ => rfl, fun j hj => ?_, by rw [List.length_drop]; omega⟩
    rw [List.length_drop] at hj
    have hx : P[1 + j]? = some (P.getD (1 + j) []) := by rw [getD_eq (by omega)]; exact List.getElem?_eq_some_iff.2 ⟨by omega, rfl⟩
    obtain ⟨cs, k1, ⟨u, k2, k3⟩, k4⟩ := h.cells hx
    have := k4 0 u (by rw [k2]; rfl)
    rw [Nat.mul_one, Nat.add_zero] at this
    refine ⟨u, this, ?_⟩
    rw [List.getD_eq_getElem?_getD, List.getElem?_drop, ← List.getD_eq_getElem?_getD]
    exact k3.ks (hl _ (by rw [getD_eq (by omega)]; exact List.getElem_mem _))
  · have e : P.length = 1 := by omega
    have hd : P.drop 1 = [] := List.drop_eq_nil_of_le (by omega)
    rw [hd, e]
    exact ⟨some a, c, 0, 0, rfl, by simp, by intro j hj; simp at hj, by simp⟩
end Go.Proofs.YtfihpofdoffclaaGreatDoor

/- The law CanonicalCertifies. -/
namespace Go.Proofs.YtfihpofdoffclaaGreatDoor
open Go.RowKit

theorem prv_word_le {ss : List (List (List Int))} {n : Int} (hW : SmA n ss) : ∀ x ∈ prvL ss, x.length ≤ 1000 := fun x hx => by
  unfold prvL at hx
  have hl := hW.2.2.1
  rcases List.mem_append.1 hx with hx | hx
  · have hx := List.mem_of_mem_drop hx
    obtain ⟨i, hi, rfl⟩ := List.getElem_of_mem hx
    have h1 := wds_le ss.length (ordI ss).2 i
    rw [getD_eq hi] at h1
    have h2 := (ordI_ok hW.cls hW.asc).1
    have h3 := (ordI_eq hW.cls).2.1
    have h4 := congrArg List.length h2
    rw [List.length_cons, List.length_map] at h4
    omega
  · have key : ∀ (m i k : Nat), i < ss.length → k + m ≤ ss.length → ∀ x ∈ prRow ss i k m, x.length ≤ 1000 := by
      intro m
      induction m with
      | zero => intro i k _ _ x hx; cases hx
      | succ m ih =>
        intro i k hi hk x hx
        rw [prRow] at hx
        rcases List.mem_cons.1 hx with rfl | hx
        · have := dist_le hW.lead hW.asc (s := i) (t := k) hi (by omega)
          omega
        · exact ih i (k + 1) hi (by omega) x hx
    have key2 : ∀ (m i : Nat), i + m = ss.length → ∀ x ∈ prAll ss i m, x.length ≤ 1000 := by
      intro m
      induction m with
      | zero => intro i _ x hx; cases hx
      | succ m ih =>
        intro i hi x hx
        rw [prAll] at hx
        rcases List.mem_append.1 hx with hx | hx
        · exact key m i (i + 1) (by omega) (by omega) x hx
        · exact ih (i + 1) (by omega) x hx
    exact key2 ss.length 0 (by omega) x hx
theorem u8Lit {w : World} {b : Nat} (h : w.heap[b]? = some (.cells #[.int .u8 1, .int .u8 0, .int .u8 1] 5)) : U8s w (.slice (some ⟨b, 0, none⟩) 3 3) [1, 0, 1] := by
  refine ⟨_, _, b, 0, rfl, fun _ => rfl, fun j hj => ?_, by intro x hx; simp at hx; omega, by simp⟩
  rw [Nat.zero_add, cell_of_row _ _ _ _ _ _ h]
  match j, hj with
  | 0, _ => rfl
  | 1, _ => rfl
  | 2, _ => rfl
  | _ + 3, hj => exact absurd hj (by show ¬ _ < 3; omega)
set_option maxRecDepth 100000 in
set_option maxHeartbeats 3200000 in
theorem lawCertifies {w : World} {u : Value} {m k : Int} {xs : List (List (List Int))} (hk0 : 0 ≤ k) (hk1 : k ≤ 255) (hx : AdvV w u m xs) :
    Calls Tryz.prog 7 #[u, .int .u8 k] w fun e w' => e = .returned (.bool true) ∧ Below w.heap.size w w' := by
  have h8 := hx.len8
  obtain ⟨xa, xc, hu⟩ := advShape' hx
  subst hu
  obtain ⟨W1, hW1⟩ : ∃ W1, W1 = w.alloc (.cells #[.int .i64 m, .slice xa xs.length xc] 24) := ⟨_, rfl⟩
  obtain ⟨hb1, p0, p1, hs1⟩ := boxAdv hW1
  replace hs1 := Lib.hid hs1
  have HX := Lib.hid (fun W (hb : Below W1.heap.size W1 W) => (hx.keep hb1).keep hb)
  have HF := Lib.hid (refFew (HX.out W1 (Below.refl _ _)))
  have HC := Lib.hid (fun W (hb : Below W1.heap.size W1 W) => refCheckA (HX.out W hb))
  have HK := Lib.hid (fun W (hb : Below W1.heap.size W1 W) => And.intro (cell_kept hb p0) (cell_kept hb p1))
  have hfx : Hid (fewA xs = true → xs.length ≤ 8 ∧ movesN xs ≤ 40) := fun h => by simp [fewA] at h; omega
  obtain ⟨fx, hfx1⟩ : ∃ fx, fewA xs = fx := ⟨_, rfl⟩
  rw [hfx1] at HF hfx
  replace hfx1 := Lib.hid hfx1
  replace h8 := Lib.hid h8
  clear hx
  cases fx
  · go_enter Tryz.func7, Tryz.ntmps7
    go_wp2_with fail
    rw [← hW1]
    refine HF.out.mono ?_
    rintro e W2 ⟨rfl, hb2⟩
    go_wp2_with fail
    refine (awakeK W2 (bt hb1 hb2 hb1.size) (Nat.le_trans hb1.size hb2.size)).mono ?_
    rintro e W3 ⟨rfl, hb3⟩
    go_wp2
    go_ret
    exact ⟨rfl, hb3⟩
  · obtain ⟨x1, x2⟩ := hfx.out rfl
    by_cases h0 : chkA m xs = 0
    · rw [h0] at HC
      have hmx : Tryz.prog.follows .mixedOrders = true := by kernel_rfl
      have hSm : SmA m xs := ⟨h8.out, h0, by omega, by omega⟩
      have hSp : SpA xs (btOf [1, 0, 1]) := ⟨btOf_le _, hSm.lead, h8.out⟩
      obtain ⟨C, hC⟩ : ∃ C, canS xs = C := ⟨_, rfl⟩
      have hCs : SmA m C := by
        rw [← hC]
        have h1 := canS_small hSm
        have h2 := canS_moves hSm
        exact ⟨canS_len8 hSm, canS_chk hSm, by omega, by omega⟩
      have hCl : 1 ≤ C.length ∧ C.length ≤ 8 := by rw [← hC]; have h1 := canS_small hSm; omega
      have hmin : minB C = true := by rw [← hC]; exact canS_min hSm
      have htmin : minB (splitS xs (btOf [1, 0, 1])) = false := splitS_min hSp h0 (by omega) (by omega)
      have htl := splitS_len xs (btOf [1, 0, 1])
      have htm := splitS_moves xs (btOf [1, 0, 1])
      have ht0 := splitS_chk hSp h0 (by omega) (by omega)
      have ht8 : ∀ s ∈ splitS xs (btOf [1, 0, 1]), ∀ m ∈ s, m.length = 8 := fun s hs m hm => (splitS_mem hSp hs hm).1
      have H1 := Lib.hid (fun W (hb : Below W1.heap.size W1 W) => canonGood (HX.out W hb) (by omega) (by omega) h0)
      have H3 := Lib.hid (fun W pv (hb : Below W1.heap.size W1 W) (hp : U8s W pv [1, 0, 1]) => splitCall (HX.out W hb) hSp.2.1 (by omega) (by omega) hp)
      obtain ⟨tt, htt⟩ : ∃ tt, splitS xs (btOf [1, 0, 1]) = tt := ⟨_, rfl⟩
      rw [htt] at htmin htl htm ht0 ht8 H3
      rw [hC] at H1
      have H2 := Lib.hid (fun W v (hv : AdvV W v m C) => proveA hv hCs.cls hCs.2.1 (by omega))
      have H4 := Lib.hid (fun W v (hv : AdvV W v m tt) => proveA hv (clsOK_of ht8 ht0 (by omega) (by omega)) ht0 (by omega))
      have H5 := Lib.hid (fun W v pv ps (hv : AdvV W v m C) (hp : KSS 7 W pv ps) => verifyCall hv hCs.2.2.1 hCs.2.2.2 hp)
      unfold PrvOut at H2 H4
      rw [hmin] at H2
      rw [htmin] at H4
      simp only [if_true, if_false, Bool.false_eq_true] at H2 H4
      obtain ⟨P, hP⟩ : ∃ P, prvL C = P := ⟨_, rfl⟩
      have hPl : P.length = C.length - 1 + tri C.length := by rw [← hP]; exact prvL_len C
      have hPv : verI m C P = 0 := by rw [← hP]; exact verI_prv hCs hmin
      have hPw : ∀ x ∈ P, x.length ≤ 1000 := by rw [← hP]; exact prv_word_le hCs
      have hPb : Hid (∀ q, q < P.length → verI m C (P.set q []) = 18) := fun q hq => verI_bad hCs hPl hq
      have hPs : Hid (0 < P.length → verI m C (P.drop 1) = 15) := fun h => verI_short hCs hPl h
      rw [hP] at H2
      have htri := tri_le (n := C.length) (by omega)
      have hPm : P.length ≤ 5000 := by omega
      obtain ⟨CL, hCL⟩ : ∃ CL, C.length = CL := ⟨_, rfl⟩
      have hz : Hid (P.length = 0 → CL = 1) := fun h => by omega
      rw [hCL] at hCl
      replace hC := Lib.hid hC
      replace htt := Lib.hid htt
      replace hP := Lib.hid hP
      replace hPl := Lib.hid hPl
      replace hPv := Lib.hid hPv
      replace hPw := Lib.hid hPw
      replace h0 := Lib.hid h0
      replace hCL := Lib.hid hCL
      clear hSm hSp hCs hmin htmin htl htm ht0 ht8 htri
      go_enter Tryz.func7, Tryz.ntmps7
      go_wp2_with fail
      rw [← hW1]
      refine HF.out.mono ?_
      rintro e W2 ⟨rfl, hb2⟩
      obtain ⟨a0, a1⟩ := HK.out W2 hb2
      go_wp2_with fail
      refine (HC.out W2 hb2).mono ?_
      rintro e W3 ⟨rfl, hb3⟩
      have B3 := btt hb2 hb3
      clear a0 a1
      obtain ⟨a0, a1⟩ := HK.out W3 B3
      go_wp2_with fail
      refine (H1.out W3 B3).mono ?_
      rintro e W4 ⟨xv, rfl, hX, hb4⟩
      obtain ⟨ca, cc, hcs⟩ := hX.shape hCL.out
      subst hcs
      have B4 := btt B3 hb4
      obtain ⟨W5, hW5⟩ : ∃ W5, W5 = W4.alloc (.cells #[.int .i64 m, .slice ca CL cc] 24) := ⟨_, rfl⟩
      obtain ⟨hb5, g0, g1, _⟩ := boxAdv hW5
      have B5 := btt B4 hb5
      clear a0 a1
      have k0 := g0
      have k1 := g1
      rw [hW5] at k0 k1
      go_wp2_with fail
      rw [← hW5]
      replace hW5 := Lib.hid hW5
      clear k0 k1
      have KX := Lib.hid (fun X (hX1 : Below W5.heap.size W5 X) => And.intro ((hX.keep hb5).keep hX1) (And.intro (cell_kept hX1 g0) (cell_kept hX1 g1)))
      clear hX g0 g1 hb3 hb4 hb5
      refine (H2.out W5 _ (KX.out W5 (Below.refl _ _)).1.adv).mono ?_
      rintro e W6 ⟨pv, rfl, hp, hb6⟩
      obtain ⟨pa, pc, hps⟩ := hp.shape
      subst hps
      have B6 := btt B5 hb6
      obtain ⟨a0, a1⟩ := HK.out W6 B6
      obtain ⟨W7, hW7⟩ : ∃ W7, W7 = W6.alloc (.cells #[.int .u8 1, .int .u8 0, .int .u8 1] 5) := ⟨_, rfl⟩
      have hb7 : Below W6.heap.size W6 W7 := by rw [hW7]; exact (Below.refl _ _).alloc (Nat.le_refl _) _
      have hl7 : W7.heap[W6.heap.size]? = some (.cells #[.int .u8 1, .int .u8 0, .int .u8 1] 5) := by rw [hW7]; exact heap_alloc_new _ _
      have B7 := btt B6 hb7
      have b57 := btt hb6 hb7
      go_wp2_with fail
      rw [← hW7]
      replace hW7 := Lib.hid hW7
      clear a0 a1
      refine (H3.out W7 _ B7 (u8Lit hl7)).mono ?_
      rintro e W8 ⟨sv, rfl, hS, hb8⟩
      obtain ⟨ta, tc, hts⟩ := hS.shape'
      subst hts
      have b58 := btt b57 hb8
      go_wp2_with fail
      refine (H4.out W8 _ hS.adv).mono ?_
      rintro e W9 ⟨nv, rfl, _, hb9⟩
      have b59 := btt b58 hb9
      have hp9 := ((hp.keep (EWd.stab (by decide)) hb7).keep (EWd.stab (by decide)) hb8).keep (EWd.stab (by decide)) hb9
      have B9 := btt B7 (btt hb8 hb9)
      obtain ⟨hX9, g0, g1⟩ := KX.out W9 b59
      have hV := H5.out W9 _ _ P hX9.adv (hp9.kss7 (by omega) (fun x hx => by have := hPw.out x hx; omega))
      rw [hPv.out] at hV
      replace hV := Lib.hid hV
      clear hS hl7 hp hb6 hb7 hb8 hb9 hX9
      go_wp2_with fail
      refine hV.out.mono ?_
      rintro e W10 ⟨rfl, hb10⟩
      have B10 := btt B9 hb10
      have b510 := btt b59 hb10
      have hp10 := hp9.keep (EWd.stab (by decide)) hb10
      clear g0 g1 hV hp9
      obtain ⟨_, g0, g1⟩ := KX.out W10 b510
      by_cases hz0 : P.length = 0
      · have hzb : ((P.length : Int) == 0) = true := by simp [hz0]
        have hC1 : ((CL : Int) == 1) = true := by have := hz.out hz0; simp [this]
        clear hp10
        go_wp2_with fail
        refine (awakeK W10 (bt hb1 B10 hb1.size) (Nat.le_trans hb1.size B10.size)).mono ?_
        rintro e W6 ⟨rfl, hb6⟩
        go_wp2
        go_ret
        exact ⟨rfl, hb6⟩
      · have hzb : ((P.length : Int) == 0) = false := by simp [hz0]
        have hpos : 0 < P.length := by omega
        obtain ⟨gp, cp, hpe, _⟩ := hp10.form hpos
        obtain ⟨rfl, rfl⟩ : pa = some ⟨gp, 0, none⟩ ∧ pc = cp := by injection hpe with h1 h2 h3; exact ⟨h1, h3⟩
        have HCl := Lib.hid (cloneWd hp10 hpos (by omega))
        have hcap : P.length ≤ pc := by
          obtain ⟨vs, h1, _⟩ := hp10
          rcases h1.2 with ⟨h2, _⟩ | ⟨g, cap, cur, h2, _, _, h3, _⟩
          · cases h2
          · injection h2 with _ _ h4; omega
        replace hp10 := Lib.hid hp10
        clear hpe
        go_wp2_with fail
        refine HCl.out.mono ?_
        rintro e W11 ⟨bv, rfl, hbd, hb11⟩
        obtain ⟨gb, cb, rfl, hgb⟩ := hbd.form hpos
        obtain ⟨q, hq⟩ : ∃ q, k.toNat % P.length = q := ⟨_, rfl⟩
        have hql : q < P.length := by rw [← hq]; exact Nat.mod_lt _ hpos
        have hrem : k.tmod (P.length : Int) = (q : Int) := by
          rw [Int.tmod_eq_emod_of_nonneg hk0, ← hq]
          obtain ⟨a, rfl⟩ : ∃ a : Nat, k = (a : Int) := ⟨k.toNat, by omega⟩
          rw [Int.toNat_natCast]; rfl
        have hkw : IntKind.i64.wrap k = k := IntWalk.i64_in _ (by omega)
        have hqw : IntKind.i64.wrap (q : Int) = (q : Int) := IntWalk.i64_in _ (by omega)
        have hqi : (q : Int) < (P.length : Int) := by omega
        obtain ⟨u0, hc0⟩ : ∃ u0, W11.cell? ⟨gb, q, none⟩ = some u0 := by
          obtain ⟨cs, h1, ⟨u, h2, _⟩, h3⟩ := hbd.cells (j := q) (x := P.getD q []) (by rw [getD_eq hql]; exact List.getElem?_eq_some_iff.2 ⟨hql, rfl⟩)
          have h4 := h3 0 u (by rw [h2]; rfl)
          rw [Nat.mul_one, Nat.add_zero] at h4
          exact ⟨_, h4⟩
        have hfr := OwX.frozen hbd q
        obtain ⟨r1, r2⟩ := OwX.store1 (EWd.stab (by decide)) hbd hql (u := .slice none 0 0) rfl (x := []) ⟨_, rfl, OwX.nil _ _⟩
        have hb12 : Below W10.heap.size W10 (W11.setCell ⟨gb, q, none⟩ (.slice none 0 0)) := Below.setCell (p := ⟨gb, q, none⟩) hb11 hgb _
        replace hq := Lib.hid hq
        replace hfr := hfr
        clear hbd
        go_wp2_with fail
        obtain ⟨W12, hW12⟩ : ∃ W12, W12 = W11.setCell ⟨gb, q, none⟩ (.slice none 0 0) := ⟨_, rfl⟩
        rw [← hW12] at r1 hb12 ⊢
        replace hW12 := Lib.hid hW12
        have B12 := btt B10 hb12
        have b512 := btt b510 hb12
        have hf := Lib.hid (fun wq (hC : Below W12.heap.size W12 wq) => (KX.out wq (bt b512 hC b512.size)).2)
        have hset : (P.set q []).length = P.length := List.length_set
        have hV1 := Lib.hid (fun wq (hC : Below W12.heap.size W12 wq) => H5.out wq (.agg #[.int .i64 m, .slice ca CL cc]) (.slice (some ⟨gb, 0, none⟩) P.length cb) (P.set q []) (KX.out wq (bt b512 hC b512.size)).1.adv
          (by
            have h1 : OwX 45 1 EWd W12 W10.heap.size (.slice (some ⟨gb, 0, none⟩) P.length cb) (P.set q []).length (P.set q []) := by rw [hset]; exact r1
            refine (h1.keep (EWd.stab (by decide)) hC).kss7 (by omega) fun x hx => ?_
            rcases List.mem_or_eq_of_mem_set hx with hx | rfl
            · have := hPw.out x hx; omega
            · simp))
        rw [hPb.out q hql] at hV1
        obtain ⟨a, ha, hif⟩ : ∃ a, (1 < P.length → a = (⟨gp, 1, none⟩ : Addr)) ∧ (if pc = 1 then (some ⟨gp, 0, none⟩ : Option Addr) else some ⟨gp, 1, none⟩) = some a := by
          by_cases h : pc = 1
          · exact ⟨⟨gp, 0, none⟩, fun h2 => by omega, by rw [if_pos h]⟩
          · exact ⟨⟨gp, 1, none⟩, fun _ => rfl, by rw [if_neg h]⟩
        have hV2 := Lib.hid (fun wq (hC : Below W12.heap.size W12 wq) => H5.out wq (.agg #[.int .i64 m, .slice ca CL cc]) (.slice (some a) (P.length - 1) (pc - 1)) (P.drop 1) (KX.out wq (bt b512 hC b512.size)).1.adv
          (OwX.tail7 (hp10.out.keep (EWd.stab (by decide)) (bt hb12 hC hb12.size)) hpos (by omega) (fun x hx => by have := hPw.out x hx; omega) ha _))
        rw [hPs.out hpos] at hV2
        have HA2 := Lib.hid (fun wq (_hC : Below W12.heap.size W12 wq) => awakeCall (w := wq))
        have h1n : 1 ≤ P.length := hpos
        have h1i : (1 : Int) ≤ (P.length : Int) := by omega
        have hb1w := bt hb1 B12 hb1.size
        clear ha
        go_wp2_with fail
        refine wp_region_bw hmx (by kernel_rfl) ?_
        repeat (refine WQ.step (fun K hK => ?_)
                go_simp
                first
                  | (refine hK _ ?_; clear hK K)
                  | (apply Exists.intro
                     refine ⟨fun wq hC => ?_, hK _ ?_⟩
                     · (first | with_reducible rfl | (obtain ⟨f0, f1⟩ := hf.out wq hC; go_simp; first | done | with_reducible rfl | with_reducible exact ⟨rfl, rfl⟩))
                     clear hK K))
        (refine WQ.step (fun K hK => ?_)
         go_simp
         first
           | (refine hK _ ?_; clear hK K)
           | (apply Exists.intro
              refine ⟨fun wq hC => ?_, hK _ ?_⟩
              · (refine (hV1.out wq hC).mono ?_; rintro e w' ⟨rfl, hb⟩; exact ⟨rfl, bt hC hb hC.size⟩)
              clear hK K))
        repeat (refine WQ.step (fun K hK => ?_)
                go_simp
                first
                  | (refine hK _ ?_; clear hK K)
                  | (apply Exists.intro
                     refine ⟨fun wq hC => ?_, hK _ ?_⟩
                     · (first | with_reducible rfl | (obtain ⟨f0, f1⟩ := hf.out wq hC; go_simp; first | done | with_reducible rfl | with_reducible exact ⟨rfl, rfl⟩))
                     clear hK K))
        (refine WQ.step (fun K hK => ?_)
         go_simp
         first
           | (refine hK _ ?_; clear hK K)
           | (apply Exists.intro
              refine ⟨fun wq hC => ?_, hK _ ?_⟩
              · (refine (hV2.out wq hC).mono ?_; rintro e w' ⟨rfl, hb⟩; exact ⟨rfl, bt hC hb hC.size⟩)
              clear hK K))
        repeat (refine WQ.step (fun K hK => ?_)
                go_simp
                first
                  | (refine hK _ ?_; clear hK K)
                  | (apply Exists.intro
                     refine ⟨fun wq hC => ?_, hK _ ?_⟩
                     · (first | with_reducible rfl | (obtain ⟨f0, f1⟩ := hf.out wq hC; go_simp; first | done | with_reducible rfl | with_reducible exact ⟨rfl, rfl⟩))
                     clear hK K))
        (refine WQ.step (fun K hK => ?_)
         go_simp
         first
           | (refine hK _ ?_; clear hK K)
           | (apply Exists.intro
              refine ⟨fun wq hC => ?_, hK _ ?_⟩
              · (refine (HA2.out wq hC).mono ?_; rintro e w' ⟨rfl, hb⟩; exact ⟨rfl, bt hC hb hC.size⟩)
              clear hK K))
        repeat (refine WQ.step (fun K hK => ?_)
                go_simp
                first
                  | (refine hK _ ?_; clear hK K)
                  | (apply Exists.intro
                     refine ⟨fun wq hC => ?_, hK _ ?_⟩
                     · (first | with_reducible rfl | (obtain ⟨f0, f1⟩ := hf.out wq hC; go_simp; first | done | with_reducible rfl | with_reducible exact ⟨rfl, rfl⟩))
                     clear hK K))
        refine WQ.nil ?_
        intro w4 hb4
        go_wp2
        go_ret
        exact ⟨rfl, bt hb1w hb4 hb1w.size⟩
    · obtain ⟨E, hE⟩ : ∃ E, chkA m xs = E := ⟨_, rfl⟩
      rw [hE] at HC h0
      have h1 : (E == 0) = false := by simp [h0]
      replace hE := Lib.hid hE
      go_enter Tryz.func7, Tryz.ntmps7
      go_wp2_with fail
      rw [← hW1]
      refine HF.out.mono ?_
      rintro e W2 ⟨rfl, hb2⟩
      obtain ⟨a0, a1⟩ := HK.out W2 hb2
      go_wp2_with fail
      refine (HC.out W2 hb2).mono ?_
      rintro e W3 ⟨rfl, hb3⟩
      have B3 := btt hb2 hb3
      go_wp2_with fail
      refine (awakeK W3 (bt hb1 B3 hb1.size) (Nat.le_trans hb1.size B3.size)).mono ?_
      rintro e W4 ⟨rfl, hb4⟩
      go_wp2
      go_ret
      exact ⟨rfl, hb4⟩
end Go.Proofs.YtfihpofdoffclaaGreatDoor

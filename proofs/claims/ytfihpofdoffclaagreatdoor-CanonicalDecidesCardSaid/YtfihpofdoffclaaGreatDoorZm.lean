/- Texts of this claim, put together: G0 G1 RQ G2 AP. -/
import Derived.Test.YtfihpofdoffclaaGreatDoorZl
import Derived.Test.YtfihpofdoffclaaGreatDoorZj
import Derived.Test.YtfihpofdoffclaaGreatDoorZc
import Derived.Test.YtfihpofdoffclaaGreatDoorZh
import Derived.Deep.RegionHeld3
import Derived.Deep.DeepCutAuto
import Derived.Deep.AppendLies
import Derived.Maps.AppendAt

/- The reference: alike. -/
namespace Go.Proofs.YtfihpofdoffclaaGreatDoor
open Go.RowKit

theorem sig_len (L : List Nat) (x : List (List Int)) : (sig L x).length = x.length := by simp [sig]
theorem sig_at {L : List Nat} {x : List (List Int)} {i : Nat} (h : i < x.length) {m : List Int} (hm : x.getD i [] = m) : (sig L x).getD i ([], 0) = (rdOf m, L.getD (mvTo m) 0) := by
  rw [getD_eq (by rw [sig_len]; exact h), ← hm, getD_eq h]; simp [sig]
set_option maxRecDepth 100000 in
set_option maxHeartbeats 3200000 in
theorem alikeCall {w : World} {v lv : Value} {n : Int} {ss : List (List (List Int))} {L : List Nat} (hA : AdvV w v n ss) (hM : LeadOK ss) (hL : Ints w lv (natI L)) (hLl : L.length = ss.length) {s t : Nat} (hs : s < ss.length) (ht : t < ss.length) :
    Calls Tryz.prog 124 #[v, lv, .int .i64 (s : Int), .int .i64 (t : Int)] w fun e w' => e = .returned (.bool (decide (sig L (ss.getD s []) = sig L (ss.getD t [])))) ∧ Below w.heap.size w w' := by
  obtain ⟨sv, rfl, hK⟩ := hA
  obtain ⟨sa, sc, sb, so, rfl, hsa, hsc, _⟩ := hK
  obtain rfl := hsa (by omega)
  obtain ⟨la, lc, lb, lo, rfl, hla, hlc, _⟩ := hL
  rw [natI_len] at hla ⊢
  obtain rfl := hla (by omega)
  obtain ⟨W1, hW1⟩ : ∃ W1, W1 = w.alloc (.cells #[.int .i64 n, .slice (some ⟨sb, so, none⟩) ss.length sc] 24) := ⟨_, rfl⟩
  obtain ⟨hb1, p0, p1, _⟩ := boxAdv hW1
  obtain ⟨u1, hc1, hu1⟩ := hsc s hs
  obtain ⟨u2, hc2, hu2⟩ := hsc t ht
  have hc1 := cell_kept hb1 hc1
  have hc2 := cell_kept hb1 hc2
  obtain ⟨xs, hxs⟩ : ∃ xs, ss.getD s [] = xs := ⟨_, rfl⟩
  obtain ⟨ys, hys⟩ : ∃ ys, ss.getD t [] = ys := ⟨_, rfl⟩
  have hxm : Hid (∀ m ∈ xs, 0 ≤ m.getD 7 0 ∧ m.getD 7 0 < (ss.length : Int)) := fun m hm => hM xs (by rw [← hxs, getD_eq hs]; exact List.getElem_mem hs) m hm
  have hym : Hid (∀ m ∈ ys, 0 ≤ m.getD 7 0 ∧ m.getD 7 0 < (ss.length : Int)) := fun m hm => hM ys (by rw [← hys, getD_eq ht]; exact List.getElem_mem ht) m hm
  have hu1 := hu1.keep hb1
  have hu2 := hu2.keep hb1
  rw [hxs] at hu1 ⊢
  rw [hys] at hu2 ⊢
  obtain ⟨B, hB⟩ : ∃ B, decide (sig L xs = sig L ys) = B := ⟨_, rfl⟩
  rw [hB]
  replace hB := Lib.hid hB
  obtain ⟨xa, xc, xb, xo, rfl, hxa, hxc, _⟩ := hu1
  obtain ⟨ya, yc, yb, yo, rfl, hya, hyc, _⟩ := hu2
  have hlc := Lib.hid (fun j (hj : j < L.length) => cell_kept hb1 (hlc j (by rw [natI_len]; exact hj)))
  replace hxc := Lib.hid hxc
  replace hyc := Lib.hid hyc
  have hmx : Tryz.prog.follows .mixedOrders = true := by kernel_rfl
  clear hsc hxs hys
  by_cases hlen : xs.length = ys.length
  · rw [← hlen] at hc2 
    replace hlen := Lib.hid hlen
    have h0 : Hid ((sig L xs).take 0 = (sig L ys).take 0) := rfl
    rw [hLl]
    replace hLl := Lib.hid hLl
    go_enter Tryz.func124, Tryz.ntmps124
    go_wp2_with fail
    rw [← hW1]
    replace hW1 := Lib.hid hW1
    go_quiet (fail)
    go_wp2_with fail
    go_loopw [11] (fun iv wr => ∃ i : Nat, iv = .int .i64 i ∧ i ≤ xs.length ∧ Hid ((sig L xs).take i = (sig L ys).take i) ∧ Qt W1 wr) (fun iv _ => xs.length - (intOf iv).toNat)
    case atStart => exact ⟨0, rfl, by omega, h0, Qt.mk' _ _⟩
    case round =>
      clear h0
      obtain ⟨i, rfl, hi, htk, nd, rfl⟩ := hrel
      by_cases hlt : i < xs.length
      · obtain rfl := hxa (by omega)
        obtain rfl := hya (by rw [← hlen.out]; omega)
        have hlt' : i < ys.length := by rw [← hlen.out]; exact hlt
        obtain ⟨hx8, hxi⟩ := hxc.out i hlt
        obtain ⟨hy8, hyi⟩ := hyc.out i hlt'
        obtain ⟨x, hx⟩ : ∃ x, xs.getD i [] = x := ⟨_, rfl⟩
        obtain ⟨y, hy⟩ : ∃ y, ys.getD i [] = y := ⟨_, rfl⟩
        obtain ⟨bx0, bx1⟩ := hxm.out x (by rw [← hx, getD_eq hlt]; exact List.getElem_mem hlt)
        obtain ⟨by0, by1⟩ := hym.out y (by rw [← hy, getD_eq hlt']; exact List.getElem_mem hlt')
        have sx := sig_at (L := L) hlt hx
        have sy := sig_at (L := L) hlt' hy
        rw [hx] at hx8 hxi
        rw [hy] at hy8 hyi
        obtain ⟨x0, x1, x2, x3, x4, x5, x6, x7, rfl⟩ := eight hx8
        obtain ⟨y0, y1, y2, y3, y4, y5, y6, y7, rfl⟩ := eight hy8
        replace bx0 : 0 ≤ x7 := bx0
        replace bx1 : x7 < (ss.length : Int) := bx1
        replace by0 : 0 ≤ y7 := by0
        replace by1 : y7 < (ss.length : Int) := by1
        obtain ⟨p, rfl⟩ : ∃ p : Nat, x7 = (p : Int) := ⟨x7.toNat, by omega⟩
        obtain ⟨q, rfl⟩ : ∃ q : Nat, y7 = (q : Int) := ⟨y7.toNat, by omega⟩
        have hmp : mvTo [x0, x1, x2, x3, x4, x5, x6, (p : Int)] = p := by show ((p : Int)).toNat = p; omega
        have hmq : mvTo [y0, y1, y2, y3, y4, y5, y6, (q : Int)] = q := by show ((q : Int)).toNat = q; omega
        rw [hmp] at sx
        rw [hmq] at sy
        have lp := hlc.out p (by rw [hLl.out]; omega)
        have lq := hlc.out q (by rw [hLl.out]; omega)
        rw [natI_getD] at lp lq
        obtain ⟨a, ha⟩ : ∃ a, L.getD p 0 = a := ⟨_, rfl⟩
        obtain ⟨b, hb⟩ : ∃ b, L.getD q 0 = b := ⟨_, rfl⟩
        rw [ha] at lp sx
        rw [hb] at lq sy
        obtain ⟨c0, c1, c2, c3, c4, c5, c6, c7⟩ := hxi.all8
        obtain ⟨d0, d1, d2, d3, d4, d5, d6, d7⟩ := hyi.all8
        have hdiff : Hid ((rdOf [x0, x1, x2, x3, x4, x5, x6, (p : Int)], a) ≠ (rdOf [y0, y1, y2, y3, y4, y5, y6, (q : Int)], b) → B = false) := fun hne => by
          rw [← hB.out]
          refine decide_eq_false fun h => hne ?_
          rw [← sx, ← sy, h]
        have hsame : Hid ((rdOf [x0, x1, x2, x3, x4, x5, x6, (p : Int)], a) = (rdOf [y0, y1, y2, y3, y4, y5, y6, (q : Int)], b) → (sig L xs).take (i + 1) = (sig L ys).take (i + 1)) := fun he =>
          takes_next htk.out (by rw [sig_len]; exact hlt) (by rw [sig_len]; exact hlt') (by rw [sx, sy, he])
        clear hxi hyi hx8 hy8 hx hy sx sy ha hb htk hmp hmq
        by_cases he : [x0, x1, x2, x3, x4, x5, x6] = [y0, y1, y2, y3, y4, y5, y6]
        · have hE : eqL [x0, x1, x2, x3, x4, x5, x6] [y0, y1, y2, y3, y4, y5, y6] = true := eqL_true.2 he
          by_cases hab : a = b
          · have ht2 : Hid ((sig L xs).take (i + 1) = (sig L ys).take (i + 1)) := hsame.out (by rw [hab]; exact congrArg (·, b) he)
            subst hab
            clear he hsame hdiff
            go_wp2_with fail
            go_quiet (fail)
            go_wp2_with fail
            go_roundw
            case rel => exact ⟨i + 1, by go_num, hlt, ht2, by first | exact (Qt.mk' W1 nd).step nq | exact Qt.mk' W1 _⟩
            case measure => simp [intOf]; omega
          · have hBf : Hid (B = false) := hdiff.out (fun h => hab (Prod.mk.inj h).2)
            have hne : ((a : Int) == (b : Int)) = false := by simp; omega
            clear he hsame hdiff hab
            go_wp2_with fail
            go_quiet (fail)
            go_wp2_with fail
            go_ret
            exact ⟨by rw [hBf.out]; rfl, by first | exact below_drewN hb1 _ | exact below_drewN (below_drewN hb1 _) _⟩
        · have hE : eqL [x0, x1, x2, x3, x4, x5, x6] [y0, y1, y2, y3, y4, y5, y6] = false := eqL_false.2 he
          have hBf : Hid (B = false) := hdiff.out (fun h => he (Prod.mk.inj h).1)
          clear he hsame hdiff
          go_wp2_with fail
          go_quiet (fail)
          go_wp2_with fail
          go_ret
          exact ⟨by rw [hBf.out]; rfl, by first | exact below_drewN hb1 _ | exact below_drewN (below_drewN hb1 _) _⟩
      · have hBt : Hid (B = true) := by
          show _ = _
          rw [← hB.out]
          exact decide_eq_true (takes_all htk.out (by rw [sig_len]; omega) (by rw [sig_len, ← hlen.out]; omega))
        clear htk
        go_wp2
        go_ret
        exact ⟨by rw [hBt.out]; rfl, by first | exact below_drewN hb1 _ | exact below_drewN (below_drewN hb1 _) _⟩
  · have hBf : Hid (B = false) := by
      show _ = _
      rw [← hB.out]
      exact decide_eq_false fun h => hlen (by rw [← sig_len L xs, h, sig_len])
    have h1 : ((xs.length : Int) == (ys.length : Int)) = false := by simp; omega
    go_enter Tryz.func124, Tryz.ntmps124
    go_wp2_with fail
    rw [← hW1]
    replace hW1 := Lib.hid hW1
    go_quiet (fail)
    go_wp2_with fail
    go_ret
    exact ⟨by rw [hBf.out]; rfl, by first | exact below_drewN hb1 _ | exact below_drewN (below_drewN hb1 _) _⟩
end Go.Proofs.YtfihpofdoffclaaGreatDoor

/- The reference's refinement: plain lists. -/
namespace Go.Proofs.YtfihpofdoffclaaGreatDoor

/-- The keys of the reference: the old label, and what the moves show. -/
def prs (ss : List (List (List Int))) (L : List Nat) : List (Nat × List (List Int × Nat)) := (List.range ss.length).map fun i => (L.getD i 0, sig L (ss.getD i []))
theorem prs_len (ss : List (List (List Int))) (L : List Nat) : (prs ss L).length = ss.length := by simp [prs]
theorem prs_get {ss : List (List (List Int))} {L : List Nat} {i : Nat} (h : i < ss.length) : (prs ss L)[i]'(by rw [prs_len]; exact h) = (L.getD i 0, sig L ss[i]) := by
  simp [prs, h]
/-- On the way to the partition the old label need not be looked at. -/
theorem prs_stL {ss : List (List (List Int))} (hT : ToOK ss) (k : Nat) : lbl (prs ss (stL ss k)) = stL ss (k + 1) := by
  show _ = lbl (sigs ss (stL ss k))
  have hl : (prs ss (stL ss k)).length = (sigs ss (stL ss k)).length := by rw [prs_len, sigs_len]
  refine lbl_congr hl fun i j hi hj => ?_
  rw [prs_len] at hi hj
  rw [prs_get hi, prs_get hj, sigs_get hi, sigs_get hj]
  refine ⟨fun h => (Prod.mk.inj h).2, fun h => ?_⟩
  have h1 := stL_finer hT k i j hi hj ((lbl_sigs hi hj).2 h)
  rw [h1, h]
end Go.Proofs.YtfihpofdoffclaaGreatDoor

/- Regions that draw their order, whose calls make new memory: a class of worlds in place of draws. -/
namespace Go.Proofs.YtfihpofdoffclaaGreatDoor
open Go.RowKit

theorem any_ctail {P : Program} {C : World → Prop} {Q : Exit → Act → World → Prop} {a : Act} {w : World} {l : List Oper} (n : Nat) (hB : qtB n l = true) (hg : noGuard l = true) (hC : C w.drew)
    (h : wpQuiet P (maskLast n l).toArray C (fun a' => ∀ w', C w' → wpList P l.toArray Q (l.drop n) a' w') (l.take n) a) (hQ : ¬ LetsOut Q) :
    wpAny P .any l.toArray Q l.toArray.size (Array.replicate l.toArray.size false) a w.drew := by
  simp only [qtB, Bool.and_eq_true, decide_eq_true_eq] at hB
  obtain ⟨⟨⟨⟨hlen, hs⟩, hb⟩, hlex⟩, _⟩ := hB
  have hback : ∀ (i : Nat) (o : Oper), l[i]? = some o → ∀ e ∈ o.after, e.on < i := by
    intro i o ho e he
    have := List.all_eq_true.1 hb i (List.mem_range.2 (List.getElem?_eq_some_iff.1 ho).1)
    rw [ho] at this
    simp only at this
    exact of_decide_eq_true (Array.all_eq_true'.1 this e he)
  have hlt : n < l.length := by omega
  have hlast : l[n]? = some l[n] := List.getElem?_eq_getElem hlt
  have hdrop : l.drop n = [l[n]] := by rw [List.drop_eq_getElem_cons hlt, List.drop_eq_nil_of_le (by omega)]
  have hgl : l[n].guard = none := noGuard_get hg hlast
  have start : HeadInv .any l.toArray n (Array.replicate l.toArray.size false) :=
    ⟨by simp, fun j oj _ hh => (by rw [getD_replicate_false] at hh; cases hh), fun t _ ht => getD_in (by simpa using ht) (getD_replicate_false _ _)⟩
  refine any_of_quiet_last (C := C) (Qa := fun a' => ∀ w', C w' → wpList P l.toArray Q (l.drop n) a' w') hlen hlast hgl hs hback ?_ ?_ _ _ _ _ start hC ?_ (by simp; omega)
  · intro a w' hw hh
    have h1 := hh w' hw
    rw [hdrop] at h1
    unfold wpList at h1
    rw [if_pos (by simp [Region.wanted, hgl])] at h1
    exact Oper.wp_mono (fun a w hh => hh) (h1.resolve_right (fun hh => hQ hh.2))
  · intro i o ho tmps
    simp [Region.wanted, noGuard_get hg ho]
  · simp only [Region.lexB, Bool.and_eq_true] at hlex
    have hml : (maskLast n l) = l.take n ++ [mask l[n]] := by rw [maskLast, hdrop]; rfl
    have hw : wpQuiet P (maskLast n l).toArray C (fun a' => ∀ w', C w' → wpList P l.toArray Q (l.drop n) a' w') (maskLast n l) a := by
      conv => arg 5; rw [hml]
      refine wpQuiet_append ?_
      refine wpQuiet_mono' ?_ h
      intro a' hh
      unfold wpQuiet
      rw [if_pos (by simp [Region.wanted, mask])]
      exact ⟨undef, fun w' _ => ⟨rfl, rfl⟩, hh⟩
    have := wpAnyQ_lex (C := C) (md := .any) hlex.1 (maskLast n l) 0 (Array.replicate (maskLast n l).toArray.size false) a (by simp) (by simpa using hlex.2) hw
    simpa [maskLast_length] using this
/-- All but the last operation read, or call what makes new memory only. -/
theorem wp_region_btail {P : Program} {id : Nat} {Q : Exit → Act → World → Prop} {a : Act} {w : World} {l : List Oper} (n : Nat) (hm : P.follows .mixedOrders = true) (hB : qtB n l = true) (hg : noGuard l = true)
    (hQ : ¬ LetsOut Q) (h : ∀ ops', wpQuiet P ops' (Below w.heap.size w) (fun a' => ∀ w', Below w.heap.size w w' → wpList P l.toArray Q (l.drop n) a' w') (l.take n) a) :
    (Code.region id l.toArray true).wp P Q a w :=
  wp_region_any hm (any_ctail n hB hg (below_drewN (Below.refl _ w) 1) (h _) hQ)
/-- All operations read, or call what makes new memory only. -/
theorem wp_region_ball {P : Program} {id : Nat} {Q : Exit → Act → World → Prop} {a : Act} {w : World} {l : List Oper} (hm : P.follows .mixedOrders = true) (hB : Region.lexB .any l.toArray = true)
    (h : wpQuiet P l.toArray (Below w.heap.size w) (fun a' => ∀ w', Below w.heap.size w w' → Q .normal a' w') l a) :
    (Code.region id l.toArray true).wp P Q a w :=
  wp_region_quiet (C := Below w.heap.size w) hm hB (below_drewN (Below.refl _ w) 1) (by simpa using h)
/-- One operation. -/
theorem bq_one {P : Program} {ops : Array Oper} {C : World → Prop} {Q : Act → Prop} {o : Oper} {rest : List Oper} {a : Act} (v : Value) (hg : o.guard = none) (h1 : ∀ w, C w → o.quietAt P a C w v) (h2 : wpQuiet P ops C Q rest (a.put o.dst v)) : wpQuiet P ops C Q (o :: rest) a := by
  unfold wpQuiet
  rw [if_pos (by simp [Region.wanted, hg])]
  exact ⟨v, h1, h2⟩
theorem bq_ex {P : Program} {ops : Array Oper} {C : World → Prop} {Q : Act → Prop} {o : Oper} {rest : List Oper} {a : Act} (hg : o.guard = none) (h : ∃ v, (∀ w, C w → o.quietAt P a C w v) ∧ wpQuiet P ops C Q rest (a.put o.dst v)) : wpQuiet P ops C Q (o :: rest) a := by
  obtain ⟨v, h1, h2⟩ := h
  exact bq_one v hg h1 h2
end Go.Proofs.YtfihpofdoffclaaGreatDoor

/- The reference: refined. -/
namespace Go.Proofs.YtfihpofdoffclaaGreatDoor
open Go.RowKit

section
variable {κ : Type} [DecidableEq κ]
theorem dd_mem_iff {l : List κ} {x : κ} : x ∈ dd [] l ↔ x ∈ l := ⟨fun h => by
  rcases mem_dd h with h | h
  · cases h
  · exact h, dd_mem⟩
theorem lbl_new {ks : List κ} {s : Nat} (h : s < ks.length) (hn : ks[s] ∉ ks.take s) : (lbl ks).getD s 0 = (dd [] (ks.take s)).length ∧ (dd [] (ks.take (s + 1))).length = (dd [] (ks.take s)).length + 1 := by
  have e : dd [] (ks.take (s + 1)) = dd [] (ks.take s) ++ [ks[s]] := by
    rw [List.take_succ_eq_append_getElem h, dd_app, dd, if_neg (fun k => hn (dd_mem_iff.1 k)), dd]
  refine ⟨?_, by rw [e]; simp⟩
  rw [lbl_getD h]
  have e2 : dd [] ks = dd (dd [] (ks.take (s + 1))) (ks.drop (s + 1)) := by rw [← dd_app, List.take_append_drop]
  obtain ⟨t, ht⟩ := dd_pre (ks.drop (s + 1)) (dd [] (ks.take (s + 1)))
  rw [e2, ht, e, idxOf_pre (by simp), List.idxOf_append, if_neg (fun k => hn (dd_mem_iff.1 k))]
  simp
theorem lbl_old {ks : List κ} {s : Nat} (h : s < ks.length) (hm : ks[s] ∈ ks.take s) : (dd [] (ks.take (s + 1))).length = (dd [] (ks.take s)).length := by
  rw [List.take_succ_eq_append_getElem h, dd_app, dd, if_pos (dd_mem_iff.2 hm), dd]
end
def keyP (ss : List (List (List Int))) (L : List Nat) (i : Nat) : Nat × List (List Int × Nat) := (L.getD i 0, sig L (ss.getD i []))
theorem prs_key {ss : List (List (List Int))} {L : List Nat} {i : Nat} (h : i < ss.length) : (prs ss L)[i]'(by rw [prs_len]; exact h) = keyP ss L i := by rw [prs_get h, keyP, getD_eq h]
theorem mem_take_iff {α : Type} {l : List α} {s : Nat} {x : α} (hs : s ≤ l.length) : x ∈ l.take s ↔ ∃ j, ∃ h : j < s, l[j]'(by omega) = x := by
  rw [List.mem_iff_getElem]
  constructor
  · rintro ⟨j, hj, e⟩
    rw [List.length_take] at hj
    exact ⟨j, by omega, by rw [← e, List.getElem_take]⟩
  · rintro ⟨j, hj, e⟩
    exact ⟨j, by rw [List.length_take]; omega, by rw [List.getElem_take]; exact e⟩
def cntP (ss : List (List (List Int))) (L : List Nat) (s : Nat) : Nat := (dd [] ((prs ss L).take s)).length
theorem cntP_le (ss : List (List (List Int))) (L : List Nat) (s : Nat) : cntP ss L s ≤ s := by
  have := dd_le ((prs ss L).take s) []
  rw [List.length_take, List.length_nil] at this
  unfold cntP; omega
theorem prs_new {ss : List (List (List Int))} {L : List Nat} {s : Nat} (hs : s < ss.length) (hn : ∀ j, j < s → keyP ss L j ≠ keyP ss L s) : (lbl (prs ss L)).getD s 0 = cntP ss L s ∧ cntP ss L (s + 1) = cntP ss L s + 1 := by
  refine lbl_new (by rw [prs_len]; exact hs) fun hm => ?_
  rw [mem_take_iff (by rw [prs_len]; omega)] at hm
  obtain ⟨j, hj, e⟩ := hm
  rw [prs_key hs, prs_key (by omega)] at e
  exact hn j hj e
theorem prs_old {ss : List (List (List Int))} {L : List Nat} {j s : Nat} (hs : s < ss.length) (hj : j < s) (e : keyP ss L j = keyP ss L s) : (lbl (prs ss L)).getD j 0 = (lbl (prs ss L)).getD s 0 ∧ cntP ss L (s + 1) = cntP ss L s := by
  refine ⟨(lbl_iff (by rw [prs_len]; omega) (by rw [prs_len]; exact hs)).2 (by rw [prs_key hs, prs_key (by omega)]; exact e), lbl_old (by rw [prs_len]; exact hs) ?_⟩
  rw [mem_take_iff (by rw [prs_len]; omega)]
  exact ⟨j, hj, by rw [prs_key hs, prs_key (by omega)]; exact e⟩
theorem natI_snoc {l : List Nat} {s : Nat} (h : s < l.length) : natI (l.take s) ++ [((l.getD s 0 : Nat) : Int)] = natI (l.take (s + 1)) := by
  rw [take_snoc h 0]; simp [natI]
theorem natI_take_getD {l : List Nat} {s j : Nat} (hj : j < s) : (natI (l.take s)).getD j 0 = ((l.getD j 0 : Nat) : Int) := by
  rw [natI_getD, List.getD_eq_getElem?_getD, List.getElem?_take, if_pos hj, ← List.getD_eq_getElem?_getD]
theorem OI.form {w : World} {B : Nat} {v : Value} {n : Nat} {xs : List Int} (h : OI w B v n xs) (hn : 0 < n) : ∃ g cap, v = .slice (some ⟨g, 0, none⟩) n cap ∧ B ≤ g := by
  have hl := h.length
  rcases h.2 with ⟨rfl, h'⟩ | ⟨g, cap, cur, h1, h2, _⟩
  · omega
  · exact ⟨g, cap, h1, h2⟩
/-- What the inner loop knows of the label. -/
def LabP (ss : List (List (List Int))) (L : List Nat) (s t : Nat) (lab : Int) : Prop :=
  (lab = -1 ∧ ∀ j, j < t → keyP ss L j ≠ keyP ss L s) ∨ (lab = ((lbl (prs ss L)).getD s 0 : Nat) ∧ cntP ss L (s + 1) = cntP ss L s)

set_option maxRecDepth 100000 in
set_option maxHeartbeats 3200000 in
theorem refinedCall {w : World} {v lv : Value} {n : Int} {ss : List (List (List Int))} {L : List Nat} (hA : AdvV w v n ss) (hM : LeadOK ss) (hL : Ints w lv (natI L)) (hLl : L.length = ss.length) (hl : ss.length ≤ 1000) :
    Calls Tryz.prog 84 #[v, lv] w fun e w' => ∃ u, e = .returned u ∧ OI w' w.heap.size u ss.length (natI (lbl (prs ss L))) ∧ Below w.heap.size w w' := by
  obtain ⟨sa, sc, hv⟩ := advShape' hA
  subst hv
  have HA := Lib.hid (fun W (hb : Below w.heap.size w W) s t (hs : s < ss.length) (ht : t < ss.length) => alikeCall (hA.keep hb) hM (hL.keep hb) hLl hs ht)
  obtain ⟨la, lc, lb, lo, rfl, hla, hlc, _⟩ := hL
  rw [natI_len] at hla HA ⊢
  obtain ⟨W1, hW1⟩ : ∃ W1, W1 = w.alloc (.cells #[.int .i64 n, .slice sa ss.length sc] 24) := ⟨_, rfl⟩
  obtain ⟨hb1, p0, p1, _⟩ := boxAdv hW1
  have hKl : (lbl (prs ss L)).length = ss.length := by rw [lbl_length, prs_len]
  have hend : Hid (natI ((lbl (prs ss L)).take ss.length) = natI (lbl (prs ss L))) := by show _ = _; rw [List.take_of_length_le (by omega)]
  obtain ⟨N, hN⟩ : ∃ N, ss.length = N := ⟨_, rfl⟩
  rw [hLl] at HA
  rw [hN] at hW1 HA p1 hl hLl hKl hend ⊢
  rw [hLl]
  rw [hLl] at hla
  have hlc := Lib.hid (fun j (hj : j < N) => by have := cell_kept hb1 (hlc j (by rw [natI_len]; omega)); rwa [natI_getD] at this)
  have hK0 : Hid (cntP ss L 0 = 0) := rfl
  have hcl := fun s => cntP_le ss L s
  replace hcl := Lib.hid hcl
  replace hN := Lib.hid hN
  replace hKl := Lib.hid hKl
  replace hLl := Lib.hid hLl
  have hmx : Tryz.prog.follows .mixedOrders = true := by kernel_rfl
  clear hA
  go_enter Tryz.func84, Tryz.ntmps84
  go_wp2_with fail
  rw [← hW1]
  replace hW1 := Lib.hid hW1
  go_wp2_with fail
  go_loopw [5, 6, 7] (fun ov nv iv wr => ∃ s : Nat, s ≤ N ∧ iv = .int .i64 s ∧ nv = .int .i64 ((cntP ss L s : Nat) : Int) ∧ OI wr W1.heap.size ov s (natI ((lbl (prs ss L)).take s)) ∧ Below W1.heap.size W1 wr) (fun _ _ iv _ => N - (intOf iv).toNat)
  case atStart => exact ⟨0, by omega, rfl, rfl, OI.nil _ _, Below.refl _ _⟩
  case round =>
    obtain ⟨s, hs, rfl, rfl, hO, hbr⟩ := hrel
    obtain ⟨oa, oc, rfl⟩ := hO.shape
    by_cases hlt : s < N
    · obtain rfl := hla (by omega)
      obtain ⟨wo, hwo⟩ : ∃ wo, wo = wr := ⟨_, rfl⟩
      subst hwo
      obtain ⟨c, hc⟩ : ∃ c, cntP ss L s = c := ⟨_, rfl⟩
      have hc1000 : c ≤ s := by rw [← hc]; exact hcl.out s
      rw [hc]
      replace hc := Lib.hid hc
      have hP0 : Hid (LabP ss L s 0 (-1)) := .inl ⟨rfl, fun j hj => by omega⟩
      have hst : decide (s < N) = true := decide_eq_true hlt
      have hcs : wo.cell? ⟨lb, lo + s, none⟩ = some (.int .i64 ((L.getD s 0 : Nat) : Int)) := cell_kept hbr (hlc.out s hlt)
      obtain ⟨qs, hqs⟩ : ∃ q, L.getD s 0 = q := ⟨_, rfl⟩
      rw [hqs] at hcs
      have r1 := cell_kept hbr p1
      have r0 := cell_kept hbr p0
      replace hqs := Lib.hid hqs
      go_wp2_with fail
      go_loopw [8, 9] (fun lv tv wr => ∃ (t : Nat) (lab : Int), t ≤ s ∧ tv = .int .i64 t ∧ lv = .int .i64 lab ∧ Hid (LabP ss L s t lab) ∧ Below wo.heap.size wo wr) (fun _ tv _ => s - (intOf tv).toNat)
      case atStart => exact ⟨0, -1, by omega, rfl, rfl, hP0, Below.refl _ _⟩
      case round =>
        clear hP0
        obtain ⟨t, lab, ht, rfl, rfl, hP, hbi⟩ := hrel
        have hbo := btt hbr hbi
        -- behind the inner loop
        have fin : Hid (lab < 0 → t = s → lab = -1 ∧ (lbl (prs ss L)).getD s 0 = c ∧ cntP ss L (s + 1) = c + 1) := fun h0 hts => by
          rcases hP.out with ⟨h1, h2⟩ | ⟨h1, _⟩
          · subst hts
            have := prs_new (by rw [hN.out]; exact hlt) h2
            rw [hc.out] at this
            exact ⟨h1, this⟩
          · omega
        have fin2 : Hid (0 ≤ lab → lab = ((lbl (prs ss L)).getD s 0 : Nat) ∧ cntP ss L (s + 1) = c) := fun h0 => by
          rcases hP.out with ⟨h1, _⟩ | h1
          · omega
          · rw [hc.out] at h1; exact h1
        by_cases hlab : lab < 0
        · by_cases hts : t < s
          · have htN : t < N := by omega
            have hct : wr.cell? ⟨lb, lo + t, none⟩ = some (.int .i64 ((L.getD t 0 : Nat) : Int)) := cell_kept hbo (hlc.out t htN)
            have hcs' := cell_kept hbi hcs
            have r1' := cell_kept hbi r1
            have r0' := cell_kept hbi r0
            obtain ⟨qt, hqt⟩ : ∃ q, L.getD t 0 = q := ⟨_, rfl⟩
            rw [hqt] at hct
            have hO2 := hO.keep hbi
            obtain ⟨og, ocap, hof, _⟩ := hO.form (by omega)
            obtain ⟨rfl, rfl⟩ : oa = some ⟨og, 0, none⟩ ∧ oc = ocap := by injection hof with h1 h2 h3; exact ⟨h1, h3⟩
            have hco := hO2.cell (j := t) (by omega)
            rw [natI_take_getD hts] at hco
            have hno : Hid (keyP ss L t ≠ keyP ss L s → LabP ss L s (t + 1) lab) := fun hne => by
              rcases hP.out with ⟨h1, h2⟩ | ⟨h1, _⟩
              · exact .inl ⟨h1, fun j hj => by
                  rcases Nat.lt_or_ge j t with h | h
                  · exact h2 j h
                  · obtain rfl : j = t := by omega
                    exact hne⟩
              · omega
            have hyes : Hid (keyP ss L t = keyP ss L s → (lbl (prs ss L)).getD t 0 = (lbl (prs ss L)).getD s 0 ∧ cntP ss L (s + 1) = cntP ss L s) := fun he => prs_old (by rw [hN.out]; exact hlt) hts he
            obtain ⟨x, hx⟩ : ∃ x, (lbl (prs ss L)).getD t 0 = x := ⟨_, rfl⟩
            rw [hx] at hco hyes
            have hix : (t : Int) < (N : Int) := by omega
            have his : (s : Int) < (N : Int) := by omega
            have hits : (t : Int) < (s : Int) := by omega
            by_cases hq : qt = qs
            · subst hq
              have HA1 := fun wq (hC : Below wr.heap.size wr wq) => HA.out wq (bt hb1 (btt hbo hC) hb1.size) s t hlt htN
              obtain ⟨bb, hbb⟩ : ∃ bb, decide (sig L (ss.getD s []) = sig L (ss.getD t [])) = bb := ⟨_, rfl⟩
              simp only [hbb] at HA1
              replace HA1 := Lib.hid HA1
              have hbe : ((qt : Int) == (qt : Int)) = true := by simp
              have hkey : Hid (keyP ss L t = keyP ss L s ↔ bb = true) := by
                show _ ↔ _
                rw [← hbb, decide_eq_true_iff]
                unfold keyP
                rw [hqt, hqs.out]
                exact ⟨fun h => (Prod.mk.inj h).2.symm, fun h => by rw [h]⟩
              have hf := Lib.hid (fun wq (hC : Below wr.heap.size wr wq) => And.intro (cell_kept hC hct) (And.intro (cell_kept hC hcs') (And.intro (cell_kept hC r0') (cell_kept hC r1'))))
              clear hqt hx hbb hP
              go_wp2_with fail
              refine wp_region_ball hmx (by kernel_rfl) ?_
              repeat (refine wpQuiet_step (fun K hK => ?_)
                      go_simp
                      first
                        | (refine hK _ ?_; clear hK K)
                        | (apply Exists.intro
                           refine ⟨fun wq hC => ?_, hK _ ?_⟩
                           · (first | with_reducible rfl | (obtain ⟨f0, f1, f2, f3⟩ := hf.out wq hC; go_simp; first | done | with_reducible rfl | with_reducible exact ⟨rfl, rfl⟩))
                           clear hK K))
              (refine wpQuiet_step (fun K hK => ?_)
               go_simp
               first
                 | (refine hK _ ?_; clear hK K)
                 | (apply Exists.intro
                    refine ⟨fun wq hC => ?_, hK _ ?_⟩
                    · (refine (HA1.out wq hC).mono ?_; rintro e w' ⟨rfl, hb⟩; exact ⟨rfl, bt hC hb hC.size⟩)
                    clear hK K))
              repeat (refine wpQuiet_step (fun K hK => ?_)
                      go_simp
                      first
                        | (refine hK _ ?_; clear hK K)
                        | (apply Exists.intro
                           refine ⟨fun wq hC => ?_, hK _ ?_⟩
                           · (first | with_reducible rfl | (obtain ⟨f0, f1, f2, f3⟩ := hf.out wq hC; go_simp; first | done | with_reducible rfl | with_reducible exact ⟨rfl, rfl⟩))
                           clear hK K))
              refine wpQuiet_nil ?_
              intro w4 hb4
              have hb4w := btt hbi hb4
              have hco4 := cell_kept hb4 hco
              cases bb
              · have hP2 : Hid (LabP ss L s (t + 1) lab) := hno.out fun h => by have := hkey.out.1 h; cases this
                clear hno hyes hkey
                go_wp2
                go_roundw
                case rel => exact ⟨t + 1, lab, by omega, by go_num, rfl, hP2, hb4w⟩
                case measure => simp [intOf]; omega
              · have hP2 : Hid (LabP ss L s (t + 1) (x : Int)) := by
                  obtain ⟨e1, e2⟩ := hyes.out (hkey.out.2 rfl)
                  exact .inr ⟨by rw [e1], e2⟩
                clear hno hyes hkey
                go_wp2
                go_roundw
                case rel => exact ⟨t + 1, (x : Int), by omega, by go_num, rfl, hP2, hb4w⟩
                case measure => simp [intOf]; omega
            · have hne : ((qt : Int) == (qs : Int)) = false := by simp; omega
              have hP2 : Hid (LabP ss L s (t + 1) lab) := hno.out fun h => hq (by
                have := (Prod.mk.inj h).1
                rw [hqt, hqs.out] at this; exact this)
              clear hqt hx hno hyes hq hP
              go_wp2_with fail
              go_quiet (fail)
              go_wp2_with fail
              go_roundw
              case rel => exact ⟨t + 1, lab, by omega, by go_num, rfl, hP2, by first | exact below_drewN hbi _⟩
              case measure => simp [intOf]; omega
          · obtain rfl : s = t := by omega
            obtain ⟨rfl, e1, e2⟩ := fin.out hlab rfl
            have e3 : natI ((lbl (prs ss L)).take s) ++ [((c : Nat) : Int)] = natI ((lbl (prs ss L)).take (s + 1)) := by rw [← e1]; exact natI_snoc (by rw [hKl.out]; exact hlt)
            replace e1 := Lib.hid e1
            replace e2 := Lib.hid e2
            replace e3 := Lib.hid e3
            clear fin fin2 hP
            have hO2 := hO.keep hbi
            go_wp2_with (at_builtin; refine wpAppI rfl _ _ rfl rfl hO2 rfl (by omega) hbo.size ?_)
            intro v' w' k1 k2 k3
            rw [e3.out] at k1
            go_wp2
            go_roundw
            case rel => exact ⟨s + 1, by omega, by go_num, by rw [e2.out]; go_num, k1, hbo.trans k3⟩
            case measure => simp [intOf]; omega
        · obtain ⟨e1, e2⟩ := fin2.out (by omega)
          obtain ⟨q, hq⟩ : ∃ q, (lbl (prs ss L)).getD s 0 = q := ⟨_, rfl⟩
          rw [hq] at e1
          subst e1
          have e3 : natI ((lbl (prs ss L)).take s) ++ [((q : Nat) : Int)] = natI ((lbl (prs ss L)).take (s + 1)) := by rw [← hq]; exact natI_snoc (by rw [hKl.out]; exact hlt)
          replace hq := Lib.hid hq
          replace e2 := Lib.hid e2
          replace e3 := Lib.hid e3
          clear fin fin2 hP
          have hO2 := hO.keep hbi
          have hd : decide ((q : Int) < 0) = false := decide_eq_false (by omega)
          go_wp2_with (at_builtin; refine wpAppI rfl _ _ rfl rfl hO2 rfl (by omega) hbo.size ?_)
          all_goals
            intro v' w' k1 k2 k3
            rw [e3.out] at k1
            go_wp2
            go_roundw
            case rel => exact ⟨s + 1, by omega, by go_num, by rw [e2.out], k1, hbo.trans k3⟩
            case measure => simp [intOf]; omega
    · obtain rfl : N = s := by omega
      rw [hend.out] at hO
      go_wp2
      go_ret
      exact ⟨_, rfl, hO.base hb1.size, bt hb1 hbr hb1.size⟩
end Go.Proofs.YtfihpofdoffclaaGreatDoor

/- append onto rows that a call made: at any world, and at a step of a region that draws its order; no program in sight. -/
namespace Go.Proofs.YtfihpofdoffclaaGreatDoor
open Go.RowKit

/-- Where the new row lies. -/
def NewAt (w : World) (v v' : Value) : Prop := v'.ownBlock = v.ownBlock ∨ v'.ownBlock = some w.heap.size
section
variable {α : Type} {E : TypeId} {k : Nat} {El : World → List Value → α → Prop} {B n : Nat} {v : Value} {xs : List α}
theorem run_appX {P : Program} {T ty : TypeId} {z : Value} {bytes : Nat} (hE : ElemK P T E z k bytes) (hby : bytes ≤ 128) (hk : 0 < k) (hS : Stab E El) {w : World} {cs : List Value} {x : α}
    (hown : OwX E k El w B v n xs) (ad : Addr) (c : Nat) (hcs : cs.length = k) (hnews : ∀ j u, cs[j]? = some u → w.cell? (ad.add j) = some u) (hc1 : ∀ u ∈ cs, u.oneCell' = true) (hEl : El w cs x) (hn : n ≤ 1000000000000) (hB : B ≤ w.heap.size) :
    ∃ v' w', (Builtin.append_ #[T, T] ty #[v, .slice (some ad) 1 c]).run P w = .ok v' w' ∧ OwX E k El w' B v' (n + 1) (xs ++ [x]) ∧ w.grownBy w' v.ownBlock ∧ NewAt w v v' ∧ Below B w w' ∧ KeepX E w w' := by
  obtain ⟨i0, hi, hz0, hz1, hz2⟩ := info_parts hE.2.1
  obtain ⟨vs, k1, k2, k3, k4⟩ := hown
  have hvl : vs.length = n * k := k1.1
  have hbd : (n + 1) * bytes ≤ 140737488355328 := by
    have : (n + 1) * bytes ≤ 1000000000001 * 128 := Nat.mul_le_mul (by omega) hby
    omega
  obtain ⟨v', w', hr, h1, hg, _, h5⟩ := run_append_own_at (P := P) w B T ty E i0 z k bytes hE.1 hi hz0 hz1 hz2 hE.2.2 hk v n vs k1 ad 1 c cs (by simpa using hcs) hnews hc1 (by unfold maxLen; omega) hbd hB
  have hX : KeepX E w w' := KeepX.own k1 hg
  refine ⟨v', w', hr, ⟨vs ++ cs, h1, by simp [k2], ?_, fun j x' hj => ?_⟩, hg, h5, (Below.refl B w).grown hg hB (fun k hk => (k1.lt k hk).1), hX⟩
  · intro u hu
    rcases List.mem_append.1 hu with hu | hu
    · exact k3 u hu
    · exact hc1 u hu
  · by_cases hjn : j < n
    · rw [List.getElem?_append_left (by omega)] at hj
      have hle : j * k + k ≤ n * k := by rw [← Nat.succ_mul]; exact Nat.mul_le_mul_right _ hjn
      rw [List.drop_append_of_le_length (by omega), List.take_append_of_le_length (by rw [List.length_drop]; omega)]
      exact hS _ _ _ _ (k4 j x' hj) hX
    · rw [List.getElem?_append_right (by omega)] at hj
      have hj0 : j - xs.length = 0 := by
        have := (List.getElem?_eq_some_iff.1 hj).1
        simpa using this
      rw [hj0] at hj
      simp only [List.getElem?_cons_zero, Option.some.injEq] at hj
      subst hj
      obtain rfl : j = n := by omega
      rw [← hvl, List.drop_left, List.take_of_length_le (by omega)]
      exact hS _ _ _ _ hEl hX
/-- At the operation. -/
theorem wp_appX {P : Program} {T : TypeId} {z : Value} {bytes : Nat} (hE : ElemK P T E z k bytes) (hby : bytes ≤ 128) (hk : 0 < k) (hS : Stab E El) {w : World} {cs : List Value} {x : α} {o : Oper} {a : Act} {K : Act → World → Prop} {Q : Exit → Act → World → Prop} (s y : Operand)
    (ho : o.op = .call { callee := .builtin .append, args := #[s, y], argTypes := #[T, T] }) (hs : a.eval s = v) (hown : OwX E k El w B v n xs) (ad : Addr) (c : Nat) (hx : a.eval y = .slice (some ad) 1 c) (hcs : cs.length = k)
    (hnews : ∀ j u, cs[j]? = some u → w.cell? (ad.add j) = some u) (hc1 : ∀ u ∈ cs, u.oneCell' = true) (hEl : El w cs x) (hn : n ≤ 1000000000000) (hB : B ≤ w.heap.size)
    (h : ∀ v' w', OwX E k El w' B v' (n + 1) (xs ++ [x]) → w.grownBy w' v.ownBlock → NewAt w v v' → Below B w w' → KeepX E w w' → K (a.put o.dst v') w') : o.wp P a w K Q := by
  obtain ⟨v', w', hr, h2, h3, h4, h5, h6⟩ := run_appX (P := P) (ty := o.type) hE hby hk hS hown ad c hcs hnews hc1 hEl hn hB
  unfold Oper.wp execOp
  simp only [ho, resolve, invoke, builtin, Sem.run_bind, Sem.run_pure, Result.andThen_ok, List.map_toArray, List.map_cons, List.map_nil, hs, hx, hr]
  exact h v' w' h2 h3 h4 h5 h6
/-- At the list of a plain region's operations. -/
theorem wpList_appX {P : Program} {T : TypeId} {z : Value} {bytes : Nat} (hE : ElemK P T E z k bytes) (hby : bytes ≤ 128) (hk : 0 < k) (hS : Stab E El) {w : World} {cs : List Value} {x : α} {ops : Array Oper} {rest : List Oper} {o : Oper} {a : Act} {Q : Exit → Act → World → Prop} (hgd : o.guard = none) (s y : Operand)
    (ho : o.op = .call { callee := .builtin .append, args := #[s, y], argTypes := #[T, T] }) (hs : a.eval s = v) (hown : OwX E k El w B v n xs) (ad : Addr) (c : Nat) (hx : a.eval y = .slice (some ad) 1 c) (hcs : cs.length = k)
    (hnews : ∀ j u, cs[j]? = some u → w.cell? (ad.add j) = some u) (hc1 : ∀ u ∈ cs, u.oneCell' = true) (hEl : El w cs x) (hn : n ≤ 1000000000000) (hB : B ≤ w.heap.size)
    (h : ∀ v' w', OwX E k El w' B v' (n + 1) (xs ++ [x]) → w.grownBy w' v.ownBlock → NewAt w v v' → Below B w w' → KeepX E w w' → wpList P ops Q rest (a.put o.dst v') w') : wpList P ops Q (o :: rest) a w :=
  wpList_plain hgd fun _ hK => wp_appX hE hby hk hS s y ho hs hown ad c hx hcs hnews hc1 hEl hn hB fun v' w' h1 h2 h3 h4 h5 => hK _ _ (h v' w' h1 h2 h3 h4 h5)
/-- At a step of a region that draws its order. -/
theorem step_appX {P : Program} {T : TypeId} {z : Value} {bytes : Nat} (hE : ElemK P T E z k bytes) (hby : bytes ≤ 128) (hk : 0 < k) (hS : Stab E El) {w : World} {cs : List Value} {x : α} {ops : Array Oper} {o : Oper} {a : Act} {K : Act → World → Prop} {Q : Exit → Act → World → Prop} {R : Prop} (hgd : o.guard = none) (s y : Operand)
    (ho : o.op = .call { callee := .builtin .append, args := #[s, y], argTypes := #[T, T] }) (hs : a.eval s = v) (hown : OwX E k El w B v n xs) (ad : Addr) (c : Nat) (hx : a.eval y = .slice (some ad) 1 c) (hcs : cs.length = k)
    (hnews : ∀ j u, cs[j]? = some u → w.cell? (ad.add j) = some u) (hc1 : ∀ u ∈ cs, u.oneCell' = true) (hEl : El w cs x) (hn : n ≤ 1000000000000) (hB : B ≤ w.heap.size)
    (h : ∀ v' w', OwX E k El w' B v' (n + 1) (xs ++ [x]) → w.grownBy w' v.ownBlock → NewAt w v v' → Below B w w' → KeepX E w w' → K (a.put o.dst v') w') :
    if Region.wanted o (yielded ops a.tmps) = true then Oper.wp P o a w K Q else R := by
  rw [if_pos (by simp [Region.wanted, hgd])]
  exact wp_appX hE hby hk hS s y ho hs hown ad c hx hcs hnews hc1 hEl hn hB h
end

theorem OwX.allocD {α : Type} {E : TypeId} {k : Nat} {El : World → List Value → α → Prop} {w : World} {B n : Nat} {v : Value} {xs : List α} (hS : Stab E El) (h : OwX E k El w B v n xs) (o : Obj) : OwX E k El (w.alloc o).drew B v n xs :=
  h.keep hS ((Below.refl _ w).alloc (Nat.le_refl _) o).drew
theorem OI.allocD {w : World} {B n : Nat} {v : Value} {xs : List Int} (h : OI w B v n xs) (o : Obj) : OI (w.alloc o).drew B v n xs := h.keep ((Below.refl _ w).alloc (Nat.le_refl _) o).drew
/-- Rows of ints are such rows. -/
def E1I (_ : World) (cs : List Value) (x : Int) : Prop := cs = [.int .i64 x]
theorem E1I.stab (E : TypeId) : Stab E E1I := fun _ _ _ _ h _ => h
theorem elemInt1 : ElemK Tryz.prog 27 3 (.int .i64 0) 1 8 := ⟨by kernel_rfl, by kernel_rfl, rfl⟩
theorem OI.owx {w : World} {B : Nat} {v : Value} {n : Nat} {xs : List Int} (h : OI w B v n xs) : OwX 3 1 E1I w B v n xs := by
  refine ⟨xs.map (Value.int .i64), h, h.length, fun u hu => ?_, fun j x hj => ?_⟩
  · obtain ⟨x, _, rfl⟩ := List.mem_map.1 hu; rfl
  · show _ = _
    rw [Nat.mul_one, ← List.map_drop, ← List.map_take]
    have hlt := (List.getElem?_eq_some_iff.1 hj).1
    have hx : xs[j] = x := (List.getElem?_eq_some_iff.1 hj).2
    rw [List.drop_eq_getElem_cons hlt, hx]; rfl
theorem OwX.oi {w : World} {B : Nat} {v : Value} {n : Nat} {xs : List Int} (h : OwX 3 1 E1I w B v n xs) : OI w B v n xs := by
  obtain ⟨vs, h1, h2, _, h4⟩ := h
  have : vs = xs.map (Value.int .i64) := by
    have hl : vs.length = n := by have := h1.1; simpa using this
    refine List.ext_getElem (by simp; omega) fun j hj1 hj2 => ?_
    have hjx : j < xs.length := by simpa using hj2
    have := h4 j xs[j] (List.getElem?_eq_getElem hjx)
    have e : ((vs.drop (j * 1)).take 1) = [Value.int .i64 xs[j]] := this
    rw [Nat.mul_one, List.drop_eq_getElem_cons hj1, List.take_succ_cons, List.take_zero] at e
    rw [List.getElem_map]
    exact (List.cons.inj e).1
  subst this
  exact h1
/-- append(s, y) of ints, at a step of a region that draws its order. -/
theorem step_appI {w : World} {y : Int} {ops : Array Oper} {o : Oper} {a : Act} {K : Act → World → Prop} {Q : Exit → Act → World → Prop} {R : Prop} {B n : Nat} {v : Value} {xs : List Int} (hgd : o.guard = none) (s x : Operand)
    (ho : o.op = .call { callee := .builtin .append, args := #[s, x], argTypes := #[27, 27] }) (hs : a.eval s = v) (hown : OI w B v n xs) (ad : Addr) (c : Nat) (hx : a.eval x = .slice (some ad) 1 c)
    (hnews : w.cell? (ad.add 0) = some (.int .i64 y)) (hn : n ≤ 1000000000000) (hB : B ≤ w.heap.size)
    (h : ∀ v' w', OI w' B v' (n + 1) (xs ++ [y]) → w.grownBy w' v.ownBlock → NewAt w v v' → Below B w w' → KeepX 3 w w' → K (a.put o.dst v') w') :
    if Region.wanted o (yielded ops a.tmps) = true then Oper.wp Tryz.prog o a w K Q else R :=
  step_appX elemInt1 (by decide) (by decide) (E1I.stab _) hgd s x ho hs hown.owx ad c hx (cs := [.int .i64 y]) rfl (fun j u hj => by
    match j, hj with
    | 0, hj => simp only [List.getElem?_cons_zero, Option.some.injEq] at hj; subst hj; exact hnews
    | _ + 1, hj => simp at hj) (fun u hu => by rw [List.mem_singleton.1 hu]; rfl) rfl hn hB fun v' w' h1 h2 h3 h4 h5 => h v' w' h1.oi h2 h3 h4 h5
theorem cellN1 (w : World) (v : Value) (t : TypeId) : ((w.alloc (.cells #[v] t)).drew).cell? ((⟨w.heap.size, 0, none⟩ : Addr).add 0) = some v := cell_of_one (heap_alloc_new w _)
theorem cellN2 (w : World) (v : Value) (t : TypeId) (o : Obj) : (((w.alloc (.cells #[v] t)).alloc o).drew).cell? ((⟨w.heap.size, 0, none⟩ : Addr).add 0) = some v :=
  cell_of_one (w := (w.alloc (.cells #[v] t)).alloc o) ((Below.heap_alloc _ _ _ (by simp)).trans (heap_alloc_new w _))
theorem cellN3 (w : World) (v : Value) (t : TypeId) (o : Obj) : (((w.alloc o).alloc (.cells #[v] t)).drew).cell? ((⟨w.heap.size + 1, 0, none⟩ : Addr).add 0) = some v := by
  have h := heap_alloc_new (w.alloc o) (.cells #[v] t)
  rw [World.size_alloc] at h
  exact cell_of_one (w := (w.alloc o).alloc (.cells #[v] t)) h
theorem cellN4 (w : World) (v : Value) (t : TypeId) : (w.alloc (.cells #[v] t)).cell? ((⟨w.heap.size, 0, none⟩ : Addr).add 0) = some v := cell_of_one (heap_alloc_new w _)
theorem OI.allocD2 {w : World} {B n : Nat} {v : Value} {xs : List Int} (h : OI w B v n xs) (o o' : Obj) : OI ((w.alloc o).alloc o').drew B v n xs := h.keep (((Below.refl _ w).alloc (Nat.le_refl _) o).alloc (by simp) o').drew
theorem OI.alloc1 {w : World} {B n : Nat} {v : Value} {xs : List Int} (h : OI w B v n xs) (o : Obj) : OI (w.alloc o) B v n xs := h.keep ((Below.refl _ w).alloc (Nat.le_refl _) o)
theorem OI.kept {w w' : World} {row : Option Nat} {B : Nat} {v : Value} {n : Nat} {xs : List Int} (h : OI w B v n xs) (hg : w.grownBy w' row) (hne : v.ownBlock = none ∨ v.ownBlock ≠ row) : OI w' B v n xs := World.ownsRow.kept h hg hne
theorem OI.other {w w' : World} {E : TypeId} {B : Nat} {v : Value} {n : Nat} {xs : List Int} (h : OI w B v n xs) (hne : 3 ≠ E) (hx : KeepX E w w') : OI w' B v n xs := ownsRow_X h hne hx
/-- Two rows that are apart. -/
def Apart (u v : Value) : Prop := ∀ a b, u.ownBlock = some a → v.ownBlock = some b → a ≠ b
theorem Apart.symm {u v : Value} (h : Apart u v) : Apart v u := fun a b ha hb e => h b a hb ha e.symm
theorem Apart.ne {u v : Value} (h : Apart u v) : u.ownBlock = none ∨ u.ownBlock ≠ v.ownBlock := by
  cases hu : u.ownBlock with
  | none => exact .inl rfl
  | some a => exact .inr fun e => h a a hu e.symm rfl
/-- What stands when a row was appended to, and then another one. -/
def Two (B : Nat) (wr : World) (m : Nat) (xs ys : List Int) (u v : Value) (wx : World) : Prop := OI wx B u m xs ∧ OI wx B v m ys ∧ Apart u v ∧ KeepX 3 wr wx ∧ Below B wr wx
theorem Two.swap {B : Nat} {wr : World} {m : Nat} {xs ys : List Int} {u v : Value} {wx : World} (h : Two B wr m xs ys u v wx) : Two B wr m ys xs v u wx := ⟨h.2.1, h.1, h.2.2.1.symm, h.2.2.2⟩
theorem two_fin {wr w1 w2 w3 w4 : World} {B n m : Nat} {u v u' v' : Value} {xs ys xs' ys' : List Int} (hBw : B ≤ wr.heap.size) (hAp : Apart u v) (hu : OI wr B u n xs) (hv : OI wr B v n ys) (b1 : Below wr.heap.size wr w1)
    (hA : OI w2 B u' m xs') (_hgA : w1.grownBy w2 u.ownBlock) (hnA : NewAt w1 u u') (hbA : Below B w1 w2) (hxA : KeepX 3 w1 w2) (b2 : Below w2.heap.size w2 w3)
    (hB : OI w4 B v' m ys') (hgB : w3.grownBy w4 v.ownBlock) (hnB : NewAt w3 v v') (hbB : Below B w3 w4) (hxB : KeepX 3 w3 w4) : Two B wr m xs' ys' u' v' w4 := by
  have hul : ∀ a, u.ownBlock = some a → a < wr.heap.size := fun a ha => (World.ownsRow.lt hu a ha).2
  have hvl : ∀ a, v.ownBlock = some a → a < wr.heap.size := fun a ha => (World.ownsRow.lt hv a ha).2
  have s1 := b1.size
  have s2 := hbA.size
  have s3 := b2.size
  have hu'l : ∀ a, u'.ownBlock = some a → a < w2.heap.size := fun a ha => (World.ownsRow.lt hA a ha).2
  have hA3 := hA.keep b2
  have hAp1 : Apart u' v := fun a b ha hb e => by
    rcases hnA with h | h
    · exact hAp a b (h ▸ ha) hb e
    · rw [h] at ha
      simp only [Option.some.injEq] at ha
      have := hvl b hb
      omega
  have hAp2 : Apart u' v' := fun a b ha hb e => by
    rcases hnB with h | h
    · exact hAp1 a b ha (h ▸ hb) e
    · rw [h] at hb
      simp only [Option.some.injEq] at hb
      have := hu'l a ha
      omega
  exact ⟨hA3.kept hgB hAp1.ne, hB, hAp2, ((KeepX.below b1).trans hxA).trans ((KeepX.below b2).trans hxB), ((b1.mono hBw).trans hbA).trans ((b2.mono (by omega)).trans hbB)⟩
end Go.Proofs.YtfihpofdoffclaaGreatDoor

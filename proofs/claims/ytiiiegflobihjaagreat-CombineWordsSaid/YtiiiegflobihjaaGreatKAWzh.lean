/- Texts of this claim, put together: HD HE V8 HF FX Y0. -/
import Derived.Test.YtiiiegflobihjaaGreatKAWzg
import Derived.Test.YtiiiegflobihjaaGreatKAWt
import Derived.Test.YtiiiegflobihjaaGreatKAWp
import Derived.Deep.RegionHeld3
import Derived.Deep.DeepCutAuto
import Derived.Test.YtiiiegflobihjaaGreatKAWu
import Derived.BigQuiet
import Derived.Test.YtiiiegflobihjaaGreatKAWzb
import Derived.Test.YtiiiegflobihjaaGreatKAWr
import Derived.Test.YtiiiegflobihjaaGreatKAWze
import Derived.Test.YtiiiegflobihjaaGreatKAWa
import Derived.Lib.SmallJoins

/- What good says. Plain lists. -/
namespace Go.Proofs.YtiiiegflobihjaaGreat

theorem gd1_facts {n0 n : Int} {ss : List (List (List Int))} {k : Nat} (h8 : ∀ s ∈ ss, ∀ m ∈ s, m.length = 8) (h : gd1 n0 n ss k = true) : FwA n ss ∧ fewA ss = true ∧ n = n0 ∧ cnt ss k 0 ≤ 60 := by
  simp only [gd1, Bool.and_eq_true, decide_eq_true_eq] at h
  obtain ⟨h1, h2, h3, h4⟩ := h
  obtain ⟨f1, f2⟩ := fewA_le h1
  have hS := adS_of h8 h2 f1 f2
  have hp := hS.ok.pos
  exact ⟨⟨h2, hS.ok, f1, f2⟩, h1, h3, cnt_of_num hS.ok.lead' hp (by decide) h4⟩
theorem FwA.lg {n : Int} {ss : List (List (List Int))} (h : FwA n ss) : Lg n ss (fun w => alw ss w 0) := ⟨h.chk, h.ok.lead', h.ok.asc, fun _ => Iff.rfl⟩
theorem AdOK.wd {n : Int} {ss : List (List (List Int))} (h : AdOK ss) (hc : chkA n ss = 0) (hl : ss.length ≤ 90) : WdOK ss :=
  ⟨hl, by have := (chkA_facts hc).2.1.2.2; omega, h.pos, fun s hs => ⟨(h.st s hs).1, (h.st s hs).2.2.2⟩⟩
end Go.Proofs.YtiiiegflobihjaaGreat

/- Or and And of well-formed adversaries: no error. -/
namespace Go.Proofs.YtiiiegflobihjaaGreat
open Go.RowKit

theorem eqErr_of {m : Int} {xs ys : List (List (List Int))} (cx : chkA m xs = 0) (cy : chkA m ys = 0) : eqErr m m xs ys = 0 := by
  unfold eqErr
  rw [if_neg (fun h => h cx), if_neg (fun h => h cy), if_neg (fun h => h rfl)]
theorem orC {w : World} {u v : Value} {m : Int} {xs ys S : List (List (List Int))} (hx : AdvV w u m xs) (hy : AdvV w v m ys) (cx : chkA m xs = 0) (cy : chkA m ys = 0) (wx : AdOK xs) (wy : AdOK ys) (h : prA false xs ys = some S) :
    Calls Tryz.prog 10 #[u, v] w fun e w' => ∃ z, e = .returned (.tuple #[z, .int .i64 0]) ∧ AdvV w' z m S ∧ Below w.heap.size w w' :=
  (orGood hx hy (by have := (chkA_facts cx).2.1.2.2; omega) (by have := (chkA_facts cy).2.1.2.2; omega) (eqErr_of cx cy) wx wy).mono fun e w' hh => by
    rw [h] at hh
    obtain ⟨z, h1, h2, h3⟩ := hh
    exact ⟨z, h1, h2.adv, h3⟩
theorem andC {w : World} {u v : Value} {m : Int} {xs ys S T : List (List (List Int))} (hx : AdvV w u m xs) (hy : AdvV w v m ys) (cx : chkA m xs = 0) (cy : chkA m ys = 0) (wx : AdOK xs) (wy : AdOK ys) (h : prA true xs ys = some S) (hl : (lvA S).getD 0 false = true) (hT : lvR S = some T) :
    Calls Tryz.prog 13 #[u, v] w fun e w' => ∃ z, e = .returned (.tuple #[z, .int .i64 0]) ∧ AdvV w' z m T ∧ Below w.heap.size w w' :=
  (andGood hx hy (by have := (chkA_facts cx).2.1.2.2; omega) (by have := (chkA_facts cy).2.1.2.2; omega) (eqErr_of cx cy) wx wy).mono fun e w' hh => by
    rw [h] at hh
    have hh : (if (lvA S).getD 0 false = true then BdOut w m (lvR S) e w' else e = .returned (.tuple #[.agg #[.int .i64 0, .slice none 0 0], .int .i64 16]) ∧ Below w.heap.size w w') := hh
    rw [if_pos hl, hT] at hh
    obtain ⟨z, h1, h2, h3⟩ := hh
    exact ⟨z, h1, h2.adv, h3⟩
theorem andN {w : World} {u v : Value} {m : Int} {xs ys S : List (List (List Int))} (hx : AdvV w u m xs) (hy : AdvV w v m ys) (cx : chkA m xs = 0) (cy : chkA m ys = 0) (wx : AdOK xs) (wy : AdOK ys) (h : prA true xs ys = some S) (hl : (lvA S).getD 0 false = false) :
    Calls Tryz.prog 13 #[u, v] w fun e w' => e = .returned (.tuple #[.agg #[.int .i64 0, .slice none 0 0], .int .i64 16]) ∧ Below w.heap.size w w' :=
  (andGood hx hy (by have := (chkA_facts cx).2.1.2.2; omega) (by have := (chkA_facts cy).2.1.2.2; omega) (eqErr_of cx cy) wx wy).mono fun e w' hh => by
    rw [h] at hh
    have hh : (if (lvA S).getD 0 false = true then BdOut w m (lvR S) e w' else e = .returned (.tuple #[.agg #[.int .i64 0, .slice none 0 0], .int .i64 16]) ∧ Below w.heap.size w w') := hh
    rw [if_neg (by rw [hl]; decide)] at hh
    exact hh
end Go.Proofs.YtiiiegflobihjaaGreat

/- Words in lockstep; the words of the canonical form. -/
namespace Go.Proofs.YtiiiegflobihjaaGreat
open Go.RowKit

theorem all2_flat {α β γ : Type} {R : α → β → Prop} {f : α → List γ} {g : β → List γ} (h : ∀ a b, R a b → f a = g b) : ∀ {xs : List α} {ys : List β}, All2 R xs ys → xs.flatMap f = ys.flatMap g
  | [], [], _ => rfl
  | a :: xs, b :: ys, hh => by
    rw [List.flatMap_cons, List.flatMap_cons, h a b hh.1, all2_flat h hh.2]
  | [], _ :: _, h => h.elim
  | _ :: _, [], h => h.elim
theorem wL_lock {ρ : Nat → Nat → Prop} {ss tt : List (List (List Int))} (hS : SimR ρ ss tt) : ∀ (k s t : Nat), ρ s t → wL ss k s = wL tt k t
  | 0, _, _, _ => rfl
  | k + 1, s, t, h => by
    rw [wL, wL]
    exact all2_flat (fun a b hab => by rw [hab.1, wL_lock hS k _ _ hab.2]) (hS s t h)
end Go.Proofs.YtiiiegflobihjaaGreat

/- sameWords of combined adversaries that permit the same words; And of two adversaries in both orders. -/
namespace Go.Proofs.YtiiiegflobihjaaGreat
open Go.RowKit

/-- A combined adversary of few states that permits exactly these words, all of them words of one of the two. -/
structure Gp (n : Int) (xs ys S : List (List (List Int))) (L : List (List Int) → Prop) : Prop where
  ok : AdOK S
  len : S.length ≤ 90
  lg : Lg n S L
  sub : ∀ w, L w → alw xs w 0 ∨ alw ys w 0
theorem Gp.of {n : Int} {xs ys S : List (List (List Int))} {L : List (List Int) → Prop} (ok : AdOK S) (len : S.length ≤ 90) (lg : Lg n S L) (sub : ∀ w, L w → alw xs w 0 ∨ alw ys w 0) : Gp n xs ys S L := ⟨ok, len, lg, sub⟩
theorem Gp.left {n : Int} {xs ys : List (List (List Int))} (h : FwA n xs) : Gp n xs ys xs (fun w => alw xs w 0) := ⟨h.ok, by have := h.len; omega, h.lg, fun _ => .inl⟩
theorem Lg.congr {n : Int} {S : List (List (List Int))} {L L' : List (List Int) → Prop} (h : Lg n S L) (hL : ∀ w, L w ↔ L' w) : Lg n S L' := ⟨h.chk, h.lead, h.asc, fun w => (h.words w).trans (hL w)⟩
theorem sameGp {w : World} {u v : Value} {n : Int} {xs ys S S' : List (List (List Int))} {L L' : List (List Int) → Prop} (hx : AdvV w u n S) (hy : AdvV w v n S') (FXx : FwA n xs) (FY : FwA n ys) (cx : cnt xs 3 0 ≤ 60) (cy : cnt ys 3 0 ≤ 60) (g : Gp n xs ys S L) (g' : Gp n xs ys S' L') (hL : ∀ w, L w ↔ L' w) :
    Calls Tryz.prog 18 #[u, v, .int .i64 3] w fun e w' => e = .returned (.bool true) ∧ Below w.heap.size w w' := by
  obtain ⟨h1, h2⟩ := g.lg.same g'.lg hL
  have c1 := g.lg.cnt_le FXx.ok.asc FXx.ok.lead' FY.ok.asc FY.ok.lead' g.sub 3
  have c2 := g'.lg.cnt_le FXx.ok.asc FXx.ok.lead' FY.ok.asc FY.ok.lead' g'.sub 3
  have := sameWordsC hx hy g.lg.chk g'.lg.chk (g.ok.wd g.lg.chk g.len) (g'.ok.wd g'.lg.chk g'.len) (k := 3) (by decide) (num_of_cnt g.lg.lead g.ok.pos (by omega)) (num_of_cnt g'.lg.lead g'.ok.pos (by omega)) (wL_lock h1 3 0 0 h2)
  rw [show ((3 : Nat) : Int) = 3 from rfl] at this
  exact this
theorem and_two {n : Int} {xs ys : List (List (List Int))} (FXx : FwA n xs) (FY : FwA n ys) : ∃ S S', prA true xs ys = some S ∧ prA true ys xs = some S' ∧ (((lvA S).getD 0 false = false ∧ (lvA S').getD 0 false = false) ∨ ((lvA S).getD 0 false = true ∧ (lvA S').getD 0 false = true ∧ ∃ T T' D L, lvR S = some T ∧ lvR S' = some T' ∧ prA false xs T = some D ∧ Gp n xs ys T L ∧ Gp n xs ys T' L ∧ Gp n xs ys D (fun w => alw xs w 0))) := by
  have q1 := FXx.len
  have q2 := FY.len
  have q3 := FXx.mv
  have q4 := FY.mv
  have k1 : (xs.length + 1) * (ys.length + 1) ≤ 9 * 9 := Nat.mul_le_mul (by omega) (by omega)
  have k2 : (ys.length + 1) * movesN xs ≤ 9 * 40 := Nat.mul_le_mul (by omega) q3
  have k3 : (xs.length + 1) * movesN ys ≤ 9 * 40 := Nat.mul_le_mul (by omega) q4
  have k4 : (ys.length + 1) * (xs.length + 1) ≤ 9 * 9 := Nat.mul_le_mul (by omega) (by omega)
  obtain ⟨S, hS⟩ := prA_some (bt := true) FXx.ok FY.ok (by omega) (by omega)
  obtain ⟨S', hS'⟩ := prA_some (bt := true) FY.ok FXx.ok (by omega) (by omega)
  refine ⟨S, S', hS, hS', ?_⟩
  obtain ⟨a1, a2⟩ := and_lg FXx.ok FY.ok FXx.chk FY.chk hS
  obtain ⟨b1, b2⟩ := and_lg FY.ok FXx.ok FY.chk FXx.chk hS'
  have hsw : (∀ k : Nat, ∃ u : List (List Int), u.length = k ∧ alw xs u 0 ∧ alw ys u 0) ↔ ∀ k : Nat, ∃ u : List (List Int), u.length = k ∧ alw ys u 0 ∧ alw xs u 0 :=
    forall_congr' fun k => exists_congr fun u => and_congr_right fun _ => and_comm
  by_cases hl : (lvA S).getD 0 false = true
  · have hl' := b1.2 (hsw.1 (a1.1 hl))
    obtain ⟨T, hT, gT⟩ := a2 hl
    obtain ⟨T', hT', gT'⟩ := b2 hl'
    obtain ⟨t1, t2, t3, p, t4, t5⟩ := and_small FXx FY hS hT gT.chk
    obtain ⟨u1, u2, u3, _⟩ := and_small FY FXx hS' hT' gT'.chk
    have hsub : ∀ w, (∀ k : Nat, ∃ u : List (List Int), u.length = k ∧ alw xs (w ++ u) 0 ∧ alw ys (w ++ u) 0) → alw xs w 0 := fun w h => by
      obtain ⟨u, _, h1, _⟩ := h 0
      exact alw_preG h1
    obtain ⟨D, hD, d1, d2, d3⟩ := or_down FXx t1 gT.chk (by omega) (fun s hs => Nat.le_trans (t3 s hs) (by decide)) t4 t5 fun w hw => hsub w ((gT.words w).1 hw)
    refine .inr ⟨hl, hl', T, T', D, _, hT, hT', hD, ⟨t1, by omega, gT, fun w h => .inl (hsub w h)⟩, ⟨u1, by omega, gT'.congr fun w => ?_, fun w h => .inl (hsub w h)⟩, ⟨d1, by omega, d3, fun w h => .inl h⟩⟩
    exact forall_congr' fun k => exists_congr fun u => and_congr_right fun _ => and_comm
  · refine .inl ⟨by simpa using hl, ?_⟩
    cases h : (lvA S').getD 0 false with
    | false => rfl
    | true => exact absurd (a1.2 (hsw.2 (b1.1 h))) hl
end Go.Proofs.YtiiiegflobihjaaGreat

/- The law CombineAbsorbs (under way). -/
namespace Go.Proofs.YtiiiegflobihjaaGreat
open Go.RowKit

set_option maxRecDepth 100000 in
set_option maxHeartbeats 3200000 in
theorem lawAbsorbs {w : World} {u v : Value} {m n : Int} {xs ys : List (List (List Int))} (hx : AdvV w u m xs) (hy : AdvV w v n ys) :
    Calls Tryz.prog 6 #[u, v] w fun e w' => e = .returned (.bool true) ∧ Below w.heap.size w w' := by
  obtain ⟨xa, xc, hu⟩ := advShape' hx
  obtain ⟨ya, yc, hv⟩ := advShape' hy
  subst hu hv
  obtain ⟨W1, hW1⟩ : ∃ W1, W1 = (w.alloc (.cells #[.int .i64 m, .slice xa xs.length xc] 24)).alloc (.cells #[.int .i64 n, .slice ya ys.length yc] 24) := ⟨_, rfl⟩
  obtain ⟨hb1, ⟨p0, p1⟩, ⟨q0, q1⟩, _, hs1⟩ := boxAdv2 hW1
  replace hs1 := Lib.hid hs1
  obtain ⟨W2, hW2⟩ : ∃ W2, W2 = W1.alloc (.cells #[.int .i64 m, .slice xa xs.length xc, .int .i64 n, .slice ya ys.length yc] 24) := ⟨_, rfl⟩
  have hb2 : Below W1.heap.size W1 W2 := by rw [hW2]; exact (Below.refl _ _).alloc (Nat.le_refl _) _
  have kR : W2.heap[W1.heap.size]? = some (.cells #[.int .i64 m, .slice xa xs.length xc, .int .i64 n, .slice ya ys.length yc] 24) := by rw [hW2]; exact heap_alloc_new _ _
  have HX := Lib.hid (fun W (hb : Below W1.heap.size W1 W) => (hx.keep hb1).keep hb)
  have HY := Lib.hid (fun W (hb : Below W1.heap.size W1 W) => (hy.keep hb1).keep hb)
  obtain ⟨r0, r1, r2, r3⟩ := box4 kR
  have HG0 := goodTwo (HX.out W2 hb2) (HY.out W2 hb2) r0 r1 r2 r3 (k := 3) (by decide)
  rw [show ((3 : Nat) : Int) = 3 from rfl, show W1.heap.size = w.heap.size + 1 + 1 from hs1.out] at HG0
  have HG := Lib.hid HG0
  clear HG0
  obtain ⟨G, hG⟩ : ∃ G, (gd1 m m xs 3 && gd1 m n ys 3) = G := ⟨_, rfl⟩
  rw [hG] at HG
  have HK := Lib.hid (fun W (hb : Below W1.heap.size W1 W) => And.intro (cell_kept hb p0) (And.intro (cell_kept hb p1) (And.intro (cell_kept hb q0) (cell_kept hb q1))))
  clear kR r0 r1 r2 r3
  cases G
  · replace hG := Lib.hid hG
    clear hx hy
    go_enter Tryz.func6, Tryz.ntmps6
    go_wp2_with fail
    rw [← hW1, ← hW2]
    refine HG.out.mono ?_
    rintro e W3 ⟨rfl, hb3⟩
    go_wp2_with fail
    refine (awakeK W3 (bt hb1 (btt hb2 hb3) hb1.size) (Nat.le_trans hb1.size (Nat.le_trans hb2.size hb3.size))).mono ?_
    rintro e W4 ⟨rfl, hb4⟩
    go_wp2
    go_ret
    exact ⟨rfl, hb4⟩
  · have hG2 := hG
    rw [Bool.and_eq_true] at hG2
    obtain ⟨FXx, _, _, cx⟩ := gd1_facts hx.len8 hG2.1
    obtain ⟨FY, _, hnm, cy⟩ := gd1_facts hy.len8 hG2.2
    subst hnm
    obtain ⟨O, hO, aO, lO, gO⟩ := or_lg FXx FY
    obtain ⟨O', hO', aO', lO', gO'⟩ := or_lg FY FXx
    obtain ⟨p, kp, _⟩ := knowsPr FXx.ok FY.ok hO
    obtain ⟨U, T1, hU, lU, hT1, lT1, gT1⟩ := and_up FXx aO gO.chk (by omega) kp (fun w h => (gO.words w).2 (.inl h))
    have qx := FXx.len
    have qy := FY.len
    obtain ⟨U2, T2, hU2, lU2, hT2, lT2, gT2⟩ := and_up FXx FXx.ok FXx.chk (by omega) (knowsSelf xs) (fun w h => h)
    obtain ⟨aT2, _⟩ := and_ok FXx FXx.ok hU2 hT2 gT2.chk
    obtain ⟨D, hD, aD, lD, gD⟩ := or_lg FXx FXx
    obtain ⟨aT1, _⟩ := and_ok FXx aO hU hT1 gT1.chk
    have pX := Gp.left (ys := ys) FXx
    have pO := Gp.of (xs := xs) (ys := ys) aO (by omega) gO (fun w h => h)
    have pO' := Gp.of (xs := xs) (ys := ys) aO' (by omega) gO' (fun w h => h.symm)
    have p1' := Gp.of (xs := xs) (ys := ys) aT1 (by omega) gT1 (fun w h => .inl h)
    have p2 := Gp.of (xs := xs) (ys := ys) aT2 (by omega) gT2 (fun w h => .inl h)
    have p3 := Gp.of (xs := xs) (ys := ys) aD (by omega) (gD.congr (fun w => or_self_iff)) (fun w h => .inl h)
    obtain ⟨S, S', hS, hS', h2⟩ := and_two FXx FY
    replace h2 := Lib.hid h2
    clear hx hy
    go_enter Tryz.func6, Tryz.ntmps6
    go_wp2_with fail
    rw [← hW1, ← hW2]
    refine HG.out.mono ?_
    rintro e W3 ⟨rfl, hb3⟩
    have B3 := btt hb2 hb3
    obtain ⟨a0, a1, a2, a3⟩ := HK.out W3 B3
    go_wp2_with fail
    clear a0 a1 a2 a3
    refine (orC (HX.out W3 B3) (HY.out W3 B3) FXx.chk FY.chk FXx.ok FY.ok hO).mono ?_
    rintro e W4 ⟨z, rfl, hZ, hb4⟩
    obtain ⟨sa4, sc4, hs⟩ := advShape' hZ
    subst hs
    have B4 := btt B3 hb4
    obtain ⟨W5, hW5⟩ : ∃ W, W = W4.alloc (.cells #[.int .i64 n, .slice sa4 O.length sc4] 24) := ⟨_, rfl⟩
    have hb5 : Below W4.heap.size W4 W5 := by rw [hW5]; exact (Below.refl _ _).alloc (Nat.le_refl _) _
    have k5 : W5.heap[W4.heap.size]? = some (.cells #[.int .i64 n, .slice sa4 O.length sc4] 24) := by rw [hW5]; exact heap_alloc_new _ _
    have H5 := Lib.hid (fun W (hb : Below W5.heap.size W5 W) => (hZ.keep hb5).keep hb)
    clear hZ
    have B5 := btt B4 hb5
    have C5 := Below.refl W5.heap.size W5
    obtain ⟨a0, a1, a2, a3⟩ := HK.out W5 B5
    rw [hW5] at a0 a1 a2 a3
    go_wp2_with fail
    rw [← hW5]
    replace hW5 := Lib.hid hW5
    clear a0 a1 a2 a3
    refine (orC (HY.out W5 B5) (HX.out W5 B5) FY.chk FXx.chk FY.ok FXx.ok hO').mono ?_
    rintro e W6 ⟨z, rfl, hZ, hb6⟩
    obtain ⟨sa6, sc6, hs⟩ := advShape' hZ
    subst hs
    have B6 := btt B5 hb6
    replace C5 := btt C5 hb6
    obtain ⟨W7, hW7⟩ : ∃ W, W = W6.alloc (.cells #[.int .i64 n, .slice sa6 O'.length sc6] 24) := ⟨_, rfl⟩
    have hb7 : Below W6.heap.size W6 W7 := by rw [hW7]; exact (Below.refl _ _).alloc (Nat.le_refl _) _
    have k7 : W7.heap[W6.heap.size]? = some (.cells #[.int .i64 n, .slice sa6 O'.length sc6] 24) := by rw [hW7]; exact heap_alloc_new _ _
    have H7 := Lib.hid (fun W (hb : Below W7.heap.size W7 W) => (hZ.keep hb7).keep hb)
    clear hZ
    have B7 := btt B6 hb7
    replace C5 := btt C5 hb7
    have C7 := Below.refl W7.heap.size W7
    obtain ⟨a0, a1, a2, a3⟩ := HK.out W7 B7
    obtain ⟨l0x, l0y⟩ := box2 (kept C5 k5)
    rw [hW7] at a0 a1 a2 a3 l0x l0y
    go_wp2_with fail
    rw [← hW7]
    replace hW7 := Lib.hid hW7
    clear a0 a1 a2 a3 l0x l0y
    refine (andC (HX.out W7 B7) (H5.out W7 C5) FXx.chk gO.chk FXx.ok aO hU lU hT1).mono ?_
    rintro e W8 ⟨z, rfl, hZ, hb8⟩
    obtain ⟨sa8, sc8, hs⟩ := advShape' hZ
    subst hs
    have B8 := btt B7 hb8
    replace C5 := btt C5 hb8
    replace C7 := btt C7 hb8
    obtain ⟨W9, hW9⟩ : ∃ W, W = W8.alloc (.cells #[.int .i64 n, .slice sa8 T1.length sc8] 24) := ⟨_, rfl⟩
    have hb9 : Below W8.heap.size W8 W9 := by rw [hW9]; exact (Below.refl _ _).alloc (Nat.le_refl _) _
    have k9 : W9.heap[W8.heap.size]? = some (.cells #[.int .i64 n, .slice sa8 T1.length sc8] 24) := by rw [hW9]; exact heap_alloc_new _ _
    have H9 := Lib.hid (fun W (hb : Below W9.heap.size W9 W) => (hZ.keep hb9).keep hb)
    clear hZ
    have B9 := btt B8 hb9
    replace C5 := btt C5 hb9
    replace C7 := btt C7 hb9
    have C9 := Below.refl W9.heap.size W9
    obtain ⟨a0, a1, a2, a3⟩ := HK.out W9 B9
    rw [hW9] at a0 a1 a2 a3
    go_wp2_with fail
    rw [← hW9]
    replace hW9 := Lib.hid hW9
    clear a0 a1 a2 a3
    refine (andC (HX.out W9 B9) (HX.out W9 B9) FXx.chk FXx.chk FXx.ok FXx.ok hU2 lU2 hT2).mono ?_
    rintro e W10 ⟨z, rfl, hZ, hb10⟩
    obtain ⟨sa10, sc10, hs⟩ := advShape' hZ
    subst hs
    have B10 := btt B9 hb10
    replace C5 := btt C5 hb10
    replace C7 := btt C7 hb10
    replace C9 := btt C9 hb10
    obtain ⟨W11, hW11⟩ : ∃ W, W = W10.alloc (.cells #[.int .i64 n, .slice sa10 T2.length sc10] 24) := ⟨_, rfl⟩
    have hb11 : Below W10.heap.size W10 W11 := by rw [hW11]; exact (Below.refl _ _).alloc (Nat.le_refl _) _
    have k11 : W11.heap[W10.heap.size]? = some (.cells #[.int .i64 n, .slice sa10 T2.length sc10] 24) := by rw [hW11]; exact heap_alloc_new _ _
    have H11 := Lib.hid (fun W (hb : Below W11.heap.size W11 W) => (hZ.keep hb11).keep hb)
    clear hZ
    have B11 := btt B10 hb11
    replace C5 := btt C5 hb11
    replace C7 := btt C7 hb11
    replace C9 := btt C9 hb11
    have C11 := Below.refl W11.heap.size W11
    obtain ⟨a0, a1, a2, a3⟩ := HK.out W11 B11
    rw [hW11] at a0 a1 a2 a3
    go_wp2_with fail
    rw [← hW11]
    replace hW11 := Lib.hid hW11
    clear a0 a1 a2 a3
    refine (orC (HX.out W11 B11) (HX.out W11 B11) FXx.chk FXx.chk FXx.ok FXx.ok hD).mono ?_
    rintro e W12 ⟨z, rfl, hZ, hb12⟩
    obtain ⟨sa12, sc12, hs⟩ := advShape' hZ
    subst hs
    have B12 := btt B11 hb12
    replace C5 := btt C5 hb12
    replace C7 := btt C7 hb12
    replace C9 := btt C9 hb12
    replace C11 := btt C11 hb12
    obtain ⟨W13, hW13⟩ : ∃ W, W = W12.alloc (.cells #[.int .i64 n, .slice sa12 D.length sc12] 24) := ⟨_, rfl⟩
    have hb13 : Below W12.heap.size W12 W13 := by rw [hW13]; exact (Below.refl _ _).alloc (Nat.le_refl _) _
    have k13 : W13.heap[W12.heap.size]? = some (.cells #[.int .i64 n, .slice sa12 D.length sc12] 24) := by rw [hW13]; exact heap_alloc_new _ _
    have H13 := Lib.hid (fun W (hb : Below W13.heap.size W13 W) => (hZ.keep hb13).keep hb)
    clear hZ
    have B13 := btt B12 hb13
    replace C5 := btt C5 hb13
    replace C7 := btt C7 hb13
    replace C9 := btt C9 hb13
    replace C11 := btt C11 hb13
    have C13 := Below.refl W13.heap.size W13
    obtain ⟨a0, a1, a2, a3⟩ := HK.out W13 B13
    obtain ⟨l0x, l0y⟩ := box2 (kept C5 k5)
    obtain ⟨l1x, l1y⟩ := box2 (kept C7 k7)
    rw [hW13] at a0 a1 a2 a3 l0x l0y l1x l1y
    go_wp2_with fail
    rw [← hW13]
    replace hW13 := Lib.hid hW13
    clear a0 a1 a2 a3 l0x l0y l1x l1y
    refine (sameGp (H5.out W13 C5) (H7.out W13 C7) FXx FY cx cy pO pO' (fun w => or_comm)).mono ?_
    rintro e W14 ⟨rfl, hb14⟩
    have B14 := btt B13 hb14
    replace C5 := btt C5 hb14
    replace C7 := btt C7 hb14
    replace C9 := btt C9 hb14
    replace C11 := btt C11 hb14
    replace C13 := btt C13 hb14
    obtain ⟨a0, a1, a2, a3⟩ := HK.out W14 B14
    obtain ⟨l0x, l0y⟩ := box2 (kept C9 k9)
    go_wp2_with fail
    clear a0 a1 a2 a3 l0x l0y
    refine (sameGp (H9.out W14 C9) (HX.out W14 B14) FXx FY cx cy p1' pX (fun w => Iff.rfl)).mono ?_
    rintro e W15 ⟨rfl, hb15⟩
    have B15 := btt B14 hb15
    replace C5 := btt C5 hb15
    replace C7 := btt C7 hb15
    replace C9 := btt C9 hb15
    replace C11 := btt C11 hb15
    replace C13 := btt C13 hb15
    obtain ⟨a0, a1, a2, a3⟩ := HK.out W15 B15
    obtain ⟨l0x, l0y⟩ := box2 (kept C11 k11)
    go_wp2_with fail
    clear a0 a1 a2 a3 l0x l0y
    refine (sameGp (H11.out W15 C11) (HX.out W15 B15) FXx FY cx cy p2 pX (fun w => Iff.rfl)).mono ?_
    rintro e W16 ⟨rfl, hb16⟩
    have B16 := btt B15 hb16
    replace C5 := btt C5 hb16
    replace C7 := btt C7 hb16
    replace C9 := btt C9 hb16
    replace C11 := btt C11 hb16
    replace C13 := btt C13 hb16
    obtain ⟨a0, a1, a2, a3⟩ := HK.out W16 B16
    obtain ⟨l0x, l0y⟩ := box2 (kept C13 k13)
    go_wp2_with fail
    clear a0 a1 a2 a3 l0x l0y
    refine (sameGp (H13.out W16 C13) (HX.out W16 B16) FXx FY cx cy p3 pX (fun w => Iff.rfl)).mono ?_
    rintro e W17 ⟨rfl, hb17⟩
    have B17 := btt B16 hb17
    replace C5 := btt C5 hb17
    replace C7 := btt C7 hb17
    replace C9 := btt C9 hb17
    replace C11 := btt C11 hb17
    replace C13 := btt C13 hb17
    rcases h2.out with ⟨l1, l2⟩ | ⟨l1, l2, T, T', E, L, hT, hT', hE, q1, q2, q3⟩
    · clear h2
      obtain ⟨a0, a1, a2, a3⟩ := HK.out W17 B17
      go_wp2_with fail
      clear a0 a1 a2 a3
      refine (andN (HX.out W17 B17) (HY.out W17 B17) FXx.chk FY.chk FXx.ok FY.ok hS l1).mono ?_
      rintro e W18 ⟨rfl, hb18⟩
      have B18 := btt B17 hb18
      replace C5 := btt C5 hb18
      replace C7 := btt C7 hb18
      replace C9 := btt C9 hb18
      replace C11 := btt C11 hb18
      replace C13 := btt C13 hb18
      obtain ⟨W19, hW19⟩ : ∃ W, W = W18.alloc (.cells #[.int .i64 0, .slice none 0 0] 24) := ⟨_, rfl⟩
      have hb19 : Below W18.heap.size W18 W19 := by rw [hW19]; exact (Below.refl _ _).alloc (Nat.le_refl _) _
      have B19 := btt B18 hb19
      replace C5 := btt C5 hb19
      replace C7 := btt C7 hb19
      replace C9 := btt C9 hb19
      replace C11 := btt C11 hb19
      replace C13 := btt C13 hb19
      obtain ⟨a0, a1, a2, a3⟩ := HK.out W19 B19
      rw [hW19] at a0 a1 a2 a3
      go_wp2_with fail
      rw [← hW19]
      replace hW19 := Lib.hid hW19
      clear a0 a1 a2 a3
      refine (andN (HY.out W19 B19) (HX.out W19 B19) FY.chk FXx.chk FY.ok FXx.ok hS' l2).mono ?_
      rintro e W20 ⟨rfl, hb20⟩
      have B20 := btt B19 hb20
      replace C5 := btt C5 hb20
      replace C7 := btt C7 hb20
      replace C9 := btt C9 hb20
      replace C11 := btt C11 hb20
      replace C13 := btt C13 hb20
      obtain ⟨W21, hW21⟩ : ∃ W, W = W20.alloc (.cells #[.int .i64 0, .slice none 0 0] 24) := ⟨_, rfl⟩
      have hb21 : Below W20.heap.size W20 W21 := by rw [hW21]; exact (Below.refl _ _).alloc (Nat.le_refl _) _
      have B21 := btt B20 hb21
      replace C5 := btt C5 hb21
      replace C7 := btt C7 hb21
      replace C9 := btt C9 hb21
      replace C11 := btt C11 hb21
      replace C13 := btt C13 hb21
      go_wp2_with fail
      rw [← hW21]
      refine (awakeK W21 (bt hb1 B21 hb1.size) (Nat.le_trans hb1.size B21.size)).mono ?_
      rintro e Wz ⟨rfl, hbz⟩
      go_wp2
      go_ret
      exact ⟨rfl, hbz⟩
    · clear h2
      obtain ⟨a0, a1, a2, a3⟩ := HK.out W17 B17
      go_wp2_with fail
      clear a0 a1 a2 a3
      refine (andC (HX.out W17 B17) (HY.out W17 B17) FXx.chk FY.chk FXx.ok FY.ok hS l1 hT).mono ?_
      rintro e W18 ⟨z, rfl, hZ, hb18⟩
      obtain ⟨sa18, sc18, hs⟩ := advShape' hZ
      subst hs
      have B18 := btt B17 hb18
      replace C5 := btt C5 hb18
      replace C7 := btt C7 hb18
      replace C9 := btt C9 hb18
      replace C11 := btt C11 hb18
      replace C13 := btt C13 hb18
      obtain ⟨W19, hW19⟩ : ∃ W, W = W18.alloc (.cells #[.int .i64 n, .slice sa18 T.length sc18] 24) := ⟨_, rfl⟩
      have hb19 : Below W18.heap.size W18 W19 := by rw [hW19]; exact (Below.refl _ _).alloc (Nat.le_refl _) _
      have k19 : W19.heap[W18.heap.size]? = some (.cells #[.int .i64 n, .slice sa18 T.length sc18] 24) := by rw [hW19]; exact heap_alloc_new _ _
      have H19 := Lib.hid (fun W (hb : Below W19.heap.size W19 W) => (hZ.keep hb19).keep hb)
      clear hZ
      have B19 := btt B18 hb19
      replace C5 := btt C5 hb19
      replace C7 := btt C7 hb19
      replace C9 := btt C9 hb19
      replace C11 := btt C11 hb19
      replace C13 := btt C13 hb19
      have C19 := Below.refl W19.heap.size W19
      obtain ⟨a0, a1, a2, a3⟩ := HK.out W19 B19
      rw [hW19] at a0 a1 a2 a3
      go_wp2_with fail
      rw [← hW19]
      replace hW19 := Lib.hid hW19
      clear a0 a1 a2 a3
      refine (andC (HY.out W19 B19) (HX.out W19 B19) FY.chk FXx.chk FY.ok FXx.ok hS' l2 hT').mono ?_
      rintro e W20 ⟨z, rfl, hZ, hb20⟩
      obtain ⟨sa20, sc20, hs⟩ := advShape' hZ
      subst hs
      have B20 := btt B19 hb20
      replace C5 := btt C5 hb20
      replace C7 := btt C7 hb20
      replace C9 := btt C9 hb20
      replace C11 := btt C11 hb20
      replace C13 := btt C13 hb20
      replace C19 := btt C19 hb20
      obtain ⟨W21, hW21⟩ : ∃ W, W = W20.alloc (.cells #[.int .i64 n, .slice sa20 T'.length sc20] 24) := ⟨_, rfl⟩
      have hb21 : Below W20.heap.size W20 W21 := by rw [hW21]; exact (Below.refl _ _).alloc (Nat.le_refl _) _
      have k21 : W21.heap[W20.heap.size]? = some (.cells #[.int .i64 n, .slice sa20 T'.length sc20] 24) := by rw [hW21]; exact heap_alloc_new _ _
      have H21 := Lib.hid (fun W (hb : Below W21.heap.size W21 W) => (hZ.keep hb21).keep hb)
      clear hZ
      have B21 := btt B20 hb21
      replace C5 := btt C5 hb21
      replace C7 := btt C7 hb21
      replace C9 := btt C9 hb21
      replace C11 := btt C11 hb21
      replace C13 := btt C13 hb21
      replace C19 := btt C19 hb21
      have C21 := Below.refl W21.heap.size W21
      obtain ⟨a0, a1, a2, a3⟩ := HK.out W21 B21
      obtain ⟨l0x, l0y⟩ := box2 (kept C19 k19)
      rw [hW21] at a0 a1 a2 a3 l0x l0y
      go_wp2_with fail
      rw [← hW21]
      replace hW21 := Lib.hid hW21
      clear a0 a1 a2 a3 l0x l0y
      refine (orC (HX.out W21 B21) (H19.out W21 C19) FXx.chk q1.lg.chk FXx.ok q1.ok hE).mono ?_
      rintro e W22 ⟨z, rfl, hZ, hb22⟩
      obtain ⟨sa22, sc22, hs⟩ := advShape' hZ
      subst hs
      have B22 := btt B21 hb22
      replace C5 := btt C5 hb22
      replace C7 := btt C7 hb22
      replace C9 := btt C9 hb22
      replace C11 := btt C11 hb22
      replace C13 := btt C13 hb22
      replace C19 := btt C19 hb22
      replace C21 := btt C21 hb22
      obtain ⟨W23, hW23⟩ : ∃ W, W = W22.alloc (.cells #[.int .i64 n, .slice sa22 E.length sc22] 24) := ⟨_, rfl⟩
      have hb23 : Below W22.heap.size W22 W23 := by rw [hW23]; exact (Below.refl _ _).alloc (Nat.le_refl _) _
      have k23 : W23.heap[W22.heap.size]? = some (.cells #[.int .i64 n, .slice sa22 E.length sc22] 24) := by rw [hW23]; exact heap_alloc_new _ _
      have H23 := Lib.hid (fun W (hb : Below W23.heap.size W23 W) => (hZ.keep hb23).keep hb)
      clear hZ
      have B23 := btt B22 hb23
      replace C5 := btt C5 hb23
      replace C7 := btt C7 hb23
      replace C9 := btt C9 hb23
      replace C11 := btt C11 hb23
      replace C13 := btt C13 hb23
      replace C19 := btt C19 hb23
      replace C21 := btt C21 hb23
      have C23 := Below.refl W23.heap.size W23
      obtain ⟨a0, a1, a2, a3⟩ := HK.out W23 B23
      obtain ⟨l0x, l0y⟩ := box2 (kept C19 k19)
      obtain ⟨l1x, l1y⟩ := box2 (kept C21 k21)
      rw [hW23] at a0 a1 a2 a3 l0x l0y l1x l1y
      go_wp2_with fail
      rw [← hW23]
      replace hW23 := Lib.hid hW23
      clear a0 a1 a2 a3 l0x l0y l1x l1y
      refine (sameGp (H19.out W23 C19) (H21.out W23 C21) FXx FY cx cy q1 q2 (fun w => Iff.rfl)).mono ?_
      rintro e W24 ⟨rfl, hb24⟩
      have B24 := btt B23 hb24
      replace C5 := btt C5 hb24
      replace C7 := btt C7 hb24
      replace C9 := btt C9 hb24
      replace C11 := btt C11 hb24
      replace C13 := btt C13 hb24
      replace C19 := btt C19 hb24
      replace C21 := btt C21 hb24
      replace C23 := btt C23 hb24
      obtain ⟨a0, a1, a2, a3⟩ := HK.out W24 B24
      obtain ⟨l0x, l0y⟩ := box2 (kept C23 k23)
      go_wp2_with fail
      clear a0 a1 a2 a3 l0x l0y
      refine (sameGp (H23.out W24 C23) (HX.out W24 B24) FXx FY cx cy q3 pX (fun w => Iff.rfl)).mono ?_
      rintro e W25 ⟨rfl, hb25⟩
      have B25 := btt B24 hb25
      replace C5 := btt C5 hb25
      replace C7 := btt C7 hb25
      replace C9 := btt C9 hb25
      replace C11 := btt C11 hb25
      replace C13 := btt C13 hb25
      replace C19 := btt C19 hb25
      replace C21 := btt C21 hb25
      replace C23 := btt C23 hb25
      go_wp2_with fail
      refine (awakeK W25 (bt hb1 B25 hb1.size) (Nat.le_trans hb1.size B25.size)).mono ?_
      rintro e Wz ⟨rfl, hbz⟩
      go_wp2
      go_ret
      exact ⟨rfl, hbz⟩
end Go.Proofs.YtiiiegflobihjaaGreat

/- Readers of arguments: adversaries as plain data. -/
namespace Go.Proofs.YtiiiegflobihjaaGreat
open Go.RowKit Go.ChangeShapes Go.WideShapes Go.ChangeAt Go.Deep Go.WideElems

section
variable {H : Type} {enc : TypeId × Value → H} {w : World} {base : Nat} {spare : Nat → Bool} {held : Bool}

theorem eightL {cs : List Value} (h : cs.length = 8) : ∃ a b c d e f g i, cs = [a, b, c, d, e, f, g, i] := by
  match cs, h with
  | [a, b, c, d, e, f, g, i], _ => exact ⟨a, b, c, d, e, f, g, i, rfl⟩
theorem moveInts {fuel : Nat} {cs : List Value} {x : DataW H × List MemPlace} (h : DataW.trod enc Tryz.prog w base spare held fuel 58 cs = some x) : ∃ xs : List Int, xs.length = 8 ∧ cs = xs.map (Value.int .i64) := by
  have k84 : Tryz.prog.cellsOf 58 = 8 := by kernel_rfl
  have k79 : Tryz.prog.cellsOf 51 = 7 := by kernel_rfl
  have k77 : Tryz.prog.cellsOf 49 = 6 := by kernel_rfl
  have k75 : Tryz.prog.cellsOf 47 = 5 := by kernel_rfl
  have k3 : Tryz.prog.cellsOf 3 = 1 := by kernel_rfl
  obtain ⟨y0, y1, n, _, hl, h0, h1⟩ := trod_struct2 Tryz.underlying58 h
  rw [k84] at hl
  obtain ⟨c0, c1, c2, c3, c4, c5, c6, c7, rfl⟩ := eightL hl
  simp only [k79, k3, List.drop_zero, List.take_succ_cons, List.take_zero, List.drop_succ_cons] at h0 h1
  obtain ⟨i7, e7, _⟩ := DataW.trod_int Tryz.underlying3 h1
  obtain ⟨z0, z1, n2, _, _, g0, g1⟩ := trod_struct2 Tryz.underlying51 h0
  simp only [k77, k3, List.drop_zero, List.take_succ_cons, List.take_zero, List.drop_succ_cons] at g0 g1
  obtain ⟨i6, e6, _⟩ := DataW.trod_int Tryz.underlying3 g1
  obtain ⟨q0, q1, n3, _, _, f0, f1⟩ := trod_struct2 Tryz.underlying49 g0
  simp only [k75, k3, List.drop_zero, List.take_succ_cons, List.take_zero, List.drop_succ_cons] at f0 f1
  obtain ⟨i0, e0, _⟩ := DataW.trod_int Tryz.underlying3 f0
  obtain ⟨xs, m, _, _, _, hxl, hx⟩ := DataW.trod_array Tryz.underlying47 f1
  have hj : ∀ (i : Nat) (c : Value), i < 5 → (([c1, c2, c3, c4, c5] : List Value).drop i).take 1 = [c] → ∃ k, c = .int .i64 k := fun i c hi hc => by
    have := hx i hi
    rw [k3, Nat.mul_one, hc, List.getElem?_eq_getElem (by omega)] at this
    obtain ⟨k, e, _⟩ := DataW.trod_int Tryz.underlying3 this
    exact ⟨k, by simpa using e⟩
  obtain ⟨i1, rfl⟩ := hj 0 c1 (by omega) rfl
  obtain ⟨i2, rfl⟩ := hj 1 c2 (by omega) rfl
  obtain ⟨i3, rfl⟩ := hj 2 c3 (by omega) rfl
  obtain ⟨i4, rfl⟩ := hj 3 c4 (by omega) rfl
  obtain ⟨i5, rfl⟩ := hj 4 c5 (by omega) rfl
  obtain rfl : c0 = .int .i64 i0 := by simpa using e0
  obtain rfl : c6 = .int .i64 i6 := by simpa using e6
  obtain rfl : c7 = .int .i64 i7 := by simpa using e7
  exact ⟨[i0, i1, i2, i3, i4, i5, i6, i7], rfl, rfl⟩
theorem ksc_of_trod {v : Value} {d : DataW H} {ps : List MemPlace} {fuel : Nat} (h : DataW.trod enc Tryz.prog w 0 (fun _ => true) true fuel 59 [v] = some (d, ps)) (hw : ∀ n ∈ d.weights Tryz.prog 59, n ≤ reachBytes) : ∃ xs, KSC 8 w v xs := by
  have k84 : Tryz.prog.cellsOf 58 = 8 := by kernel_rfl
  have b84 : Tryz.prog.bytesOf 58 = 64 := by kernel_rfl
  rcases open_slice Tryz.underlying59 h with ⟨h1, _⟩ | ⟨a, len, cap, m, n, D, Pl, h1, _, hl, hm, hmm, h2, hx⟩
  · obtain rfl : v = .slice none 0 0 := by simpa using h1
    exact ⟨[], none, 0, 0, 0, rfl, by simp, by intro j hj; simp at hj, by simp, by simp⟩
  · obtain rfl : v = .slice (some a) len cap := by simpa using h1
    simp only [if_true] at hmm
    subst hmm
    obtain ⟨rfl, _⟩ := Prod.mk.injEq .. ▸ h2
    have hsz := hw ((len + (m - len)) * 64) (by simp [DataW.weights, Tryz.underlying59, b84])
    unfold reachBytes at hsz
    rw [k84] at hx
    obtain ⟨X, hX⟩ := choose_lt (α := List Int) (n := len) (p := fun i xs => xs.length = 8 ∧ ∀ j, j < 8 → w.cell? (a.add (i * 8 + j)) = some (.int .i64 (xs.getD j 0))) (fun i hi => by
      obtain ⟨cs', g1, g2⟩ := hx i (by omega)
      obtain ⟨xs, hx8, rfl⟩ := moveInts g2
      obtain ⟨_, _, hcell⟩ := World.cells?_some g1
      refine ⟨xs, hx8, fun j hj => ?_⟩
      have := hcell j (by omega)
      rw [add_add] at this
      rw [this, List.getElem?_map, List.getElem?_eq_getElem (by omega), getD_eq (by omega)]; rfl)
    have hlen : len ≤ 2199023255552 := by omega
    have hall : ∀ j, j < len → ((List.range len).map X).getD j [] = X j := fun j hj => by simp [hj]
    refine ⟨(List.range len).map X, some a, m, a.block, a.off, by simp, fun h0 => ?_, fun j hj => ?_, by simpa using hlen, by simpa using hl⟩
    · have hk := (hX 0 (by simpa using h0)).2 0 (by omega)
      rw [show a.add (0 * 8 + 0) = a by simp [Addr.add]] at hk
      rw [← addr_spot hk]
    · have hj' : j < len := by simpa using hj
      rw [hall j hj']
      have hk0 := (hX 0 (by omega)).2 0 (by omega)
      rw [show a.add (0 * 8 + 0) = a by simp [Addr.add]] at hk0
      refine ⟨(hX j hj').1, fun i hi => ?_⟩
      have h3 := (hX j hj').2 i (by have := (hX j hj').1; omega)
      have e : a.add (j * 8 + i) = ⟨a.block, a.off + j * 8 + i, none⟩ := by
        have := addr_spot hk0
        rw [this, Nat.add_assoc]
        exact add_plain _ _ _
      rw [← e]; exact h3
theorem weightsAll_mem {e : TypeId} : ∀ {l : List (DataW H)} {x : DataW H}, x ∈ l → ∀ n ∈ x.weights Tryz.prog e, n ∈ DataW.weightsAll Tryz.prog e l := by
  intro l
  induction l with
  | nil => intro x hx; cases hx
  | cons y r ih =>
    intro x hx n hn
    simp only [DataW.weightsAll, List.mem_append]
    rcases List.mem_cons.1 hx with rfl | hx
    · exact .inl hn
    · exact .inr (ih hx n hn)
set_option maxRecDepth 100000 in
/-- An adversary among the arguments. -/
theorem advC_of_trod {r : Reach} {b0 : Nat} {v : Value} {d : DataW H} {p : List MemPlace} (hv : Value.okWide Tryz.prog w r b0 24 v) (h : DataW.Trod enc Tryz.prog w 0 (fun _ => true) true 24 v d p) (hw : ∀ n ∈ d.weights Tryz.prog 24, n ≤ reachBytes) : ∃ n ss, AdvC w v n ss := by
  have k82 : Tryz.prog.cellsOf 59 = 1 := by kernel_rfl
  have b82 : Tryz.prog.bytesOf 59 = 24 := by kernel_rfl
  obtain ⟨v0, v1, y0, y1, n, rfl, rfl, rfl, h0, h1⟩ := Go.Joins.open_agg2 Tryz.underlying24 (by kernel_rfl) (by kernel_rfl) hv h
  obtain ⟨i0, e0, _⟩ := DataW.trod_int Tryz.underlying3 h0
  obtain rfl : v0 = .int .i64 i0 := by simpa using e0
  have hw1 : ∀ n ∈ y1.1.weights Tryz.prog 22, n ≤ reachBytes := fun n hn => hw n (by
    simp only [DataW.weights, Tryz.underlying24, DataW.weightsEach, List.map_cons, List.map_nil, List.mem_append]
    exact .inr (.inl hn))
  obtain ⟨d1, p1⟩ := y1
  rcases open_slice1 Tryz.underlying22 k82 h1 with ⟨h2, _⟩ | ⟨a, len, cap, m, n, V, D, Pl, h2, _, hl, hm, hmm, h3, hx⟩
  · obtain rfl : v1 = .slice none 0 0 := by simpa using h2
    exact ⟨i0, [], none, 0, 0, 0, rfl, by simp, by intro j hj; simp at hj, by simp⟩
  · obtain rfl : v1 = .slice (some a) len cap := by simpa using h2
    simp only [if_true] at hmm
    subst hmm
    obtain ⟨rfl, _⟩ := Prod.mk.injEq .. ▸ h3
    have hsz := hw1 ((len + (m - len)) * 24) (by simp [DataW.weights, Tryz.underlying22, b82])
    unfold reachBytes at hsz
    have hxs : ∀ i, i < len → ∃ xs, KSC 8 w (V i) xs := fun i hi => by
      obtain ⟨g1, g2⟩ := hx i (by omega)
      refine ksc_of_trod g2 fun n hn => hw1 n ?_
      simp only [DataW.weights, Tryz.underlying22, List.mem_cons, List.mem_append]
      right; left
      exact weightsAll_mem (List.mem_map_of_mem (List.mem_range.2 hi)) n hn
    have hlen : len ≤ 5864062014805 := by omega
    obtain ⟨X, hX⟩ : ∃ X : Nat → List (List Int), ∀ i, i < len → KSC 8 w (V i) (X i) := ⟨fun i => if h : i < len then (hxs i h).choose else [], fun i hi => by simp only [hi, dif_pos]; exact (hxs i hi).choose_spec⟩
    refine ⟨i0, (List.range len).map X, some a, m, a.block, a.off, by simp, fun h0 => ?_, fun j hj => ?_, by simpa using hlen⟩
    · have hk := (hx 0 (by have : 0 < len := by simpa using h0
                           omega)).1
      rw [show a.add 0 = a by simp [Addr.add]] at hk
      rw [← addr_spot hk]
    · have hj' : j < len := by simpa using hj
      have hk0 := (hx 0 (by omega)).1
      rw [show a.add 0 = a by simp [Addr.add]] at hk0
      have e1 : a.add j = ⟨a.block, a.off + j, none⟩ := by
        rw [addr_spot hk0]
        exact add_plain _ _ _
      refine ⟨V j, by rw [← e1]; exact (hx j (by omega)).1, ?_⟩
      have : ((List.range len).map X).getD j [] = X j := by simp [hj']
      rw [this]
      exact hX j hj'
end
end Go.Proofs.YtiiiegflobihjaaGreat

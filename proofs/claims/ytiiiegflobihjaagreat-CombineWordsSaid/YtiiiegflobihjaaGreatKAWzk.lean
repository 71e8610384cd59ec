/- Texts of this claim, put together: JF JG JH FW Y1. -/
import Derived.Test.YtiiiegflobihjaaGreatKAWzj
import Derived.Test.YtiiiegflobihjaaGreatKAWt
import Derived.Test.YtiiiegflobihjaaGreatKAWzh
import Derived.Test.YtiiiegflobihjaaGreatKAWzi
import Derived.Test.YtiiiegflobihjaaGreatKAWp
import Derived.Deep.RegionHeld3
import Derived.Deep.DeepCutAuto
import Derived.Test.YtiiiegflobihjaaGreatKAWu
import Derived.BigQuiet
import Derived.Test.YtiiiegflobihjaaGreatKAWzb
import Derived.Test.YtiiiegflobihjaaGreatKAWr
import Derived.Test.YtiiiegflobihjaaGreatKAWv

/- sorted: words in order, each once. -/
namespace Go.Proofs.YtiiiegflobihjaaGreat
open Go.RowKit

set_option maxRecDepth 100000 in
set_option maxHeartbeats 800000 in
theorem sortedW {w0 w : World} {B n : Nat} {v : Value} {us q : List (List (List Int))} (hb : Below w0.heap.size w0 w) (hB0 : w0.heap.size ≤ B) (_hBw : B ≤ w.heap.size) (h : OwX 44 1 (EWc w0) w B v n us) (h0 : 0 < n) (hn : n ≤ 1000) (h7 : ∀ u ∈ us, W7 u) (hq7 : ∀ u ∈ q, W7 u) (hq : AscL (q.map List.flatten)) (hm : ∀ x, x ∈ q ↔ x ∈ us) :
    Calls Tryz.prog 21 #[v] w fun e w' => ∃ u, e = .returned u ∧ KSS 7 w' u q ∧ Below B w w' := by
  obtain ⟨g, cap, rfl, hBg⟩ := h.form h0
  have HS := Lib.hid (sortWds hb hB0 h (by omega))
  clear h
  go_enter Tryz.func21, Tryz.ntmps21
  go_wp2_with fail
  refine HS.out.mono ?_
  rintro e w1 ⟨rfl, us', hp, hs, ho1, hb1⟩
  have hb01 : Below w0.heap.size w0 w1 := hb.trans (hb1.mono hB0)
  have HC := compactWs hb01 hB0 ho1 hn
  have hqs := cmpw_sorted h7 hq7 hp (hs.imp fun h => by omega) hq hm
  have hqm : q.length ≤ n := by
    have := cmpw_len_le us'
    rw [hqs, ho1.length] at this
    exact this
  rw [hqs] at HC
  replace HC := Lib.hid HC
  clear hp hs ho1 hqs
  go_wp2_with fail
  refine HC.out.mono ?_
  rintro e w2 ⟨m, rfl, ho2, hb2, _⟩
  have hb02 : Below w0.heap.size w0 w2 := hb01.trans (hb2.mono hB0)
  have hlen := ho2.length
  have hfin := Lib.hid (fun (h : m ≤ 1000000) => ho2.kssW hb02 h)
  clear ho2
  go_wp2
  go_ret
  exact ⟨_, rfl, hfin.out (by omega), hb1.trans hb2⟩
end Go.Proofs.YtiiiegflobihjaaGreat

/- ContainsFunc of words: whether a word is in a list. -/
namespace Go.Proofs.YtiiiegflobihjaaGreat
open Go.RowKit

set_option maxRecDepth 100000 in
set_option maxHeartbeats 800000 in
theorem equalV {w : World} {u vv : Value} {bv : Nat} {x y : List (List Int)} (hx : KS 7 w u y) (cv : w.cell? ⟨bv, 0, none⟩ = some vv) (hv : KS 7 w vv x) :
    Calls Tryz.prog 24 #[u, .pointer (some ⟨bv, 0, none⟩)] w fun e w' => e = .returned (.bool (decide (y = x))) ∧ Below w.heap.size w w' := by
  have HE := Lib.hid (eqRds hx hv)
  obtain ⟨ua, uc, hu⟩ := hx.shape
  obtain ⟨va, vc, hvv⟩ := hv.shape
  subst hu hvv
  obtain ⟨A, hA⟩ : ∃ A, decide (y = x) = A := ⟨_, rfl⟩
  rw [hA] at HE ⊢
  replace hA := Lib.hid hA
  clear hx hv
  go_enter Tryz.func24, Tryz.ntmps24
  go_wp2_with fail
  refine HE.out.mono ?_
  rintro e w' ⟨rfl, hq⟩
  have hb := hq.below
  go_wp2
  go_ret
  exact ⟨rfl, hb⟩
set_option maxRecDepth 100000 in
set_option maxHeartbeats 1600000 in
theorem indexW {w : World} {u vv : Value} {bv : Nat} {xs : List (List (List Int))} {x : List (List Int)} (hx : KSS 7 w u xs) (cv : w.cell? ⟨bv, 0, none⟩ = some vv) (hv : KS 7 w vv x) :
    Calls Tryz.prog 62 #[u, .func (.func 24) #[] #[.pointer (some ⟨bv, 0, none⟩)]] w fun e w' => ∃ z : Int, e = .returned (.int .i64 z) ∧ decide (0 ≤ z) = decide (x ∈ xs) ∧ Below w.heap.size w w' := by
  obtain ⟨xa, xc, xb, xo, rfl, hxa, hxc, hxl⟩ := hx
  replace hxc := Lib.hid hxc
  have h0 : Hid (x ∉ xs.take 0) := by show ¬ _; simp
  have hvh := Lib.hid hv
  obtain ⟨va, vc, hvv⟩ := hv.shape
  subst hvv
  clear hv
  go_enter Tryz.func62, Tryz.ntmps62
  go_wp2_with fail
  go_loopw [8] (fun iv wr => ∃ i : Nat, iv = .int .i64 i ∧ i ≤ xs.length ∧ Hid (x ∉ xs.take i) ∧ Below w.heap.size w wr) (fun iv _ => xs.length - (intOf iv).toNat)
  case atStart => exact ⟨0, rfl, by omega, h0, Below.refl _ _⟩
  case round =>
    clear h0
    obtain ⟨i, rfl, hi, hno, hbr⟩ := hrel
    by_cases hlt : i < xs.length
    · obtain rfl := hxa (by omega)
      obtain ⟨xu, hxi, hxk⟩ := hxc.out i hlt
      obtain ⟨y, hy⟩ : ∃ y, xs.getD i [] = y := ⟨_, rfl⟩
      rw [hy] at hxk
      have c0 := cell_kept hbr hxi
      have HC := equalV (hxk.keep hbr) (cell_kept hbr cv) (hvh.out.keep hbr)
      have hmem : y ∈ xs := by rw [← hy, getD_eq hlt]; exact List.getElem_mem hlt
      have htk : xs.take (i + 1) = xs.take i ++ [y] := by rw [take_snoc hlt [], hy]
      obtain ⟨xsa, xsc, hxs⟩ := hxk.shape
      subst hxs
      clear hxk hy hxi
      by_cases he : y = x
      · rw [decide_eq_true he] at HC
        replace HC := Lib.hid HC
        have hres : Hid (decide (x ∈ xs) = true) := by show _ = _; rw [← he]; exact decide_eq_true hmem
        have h0i : decide ((0 : Int) ≤ (i : Int)) = true := decide_eq_true (by omega)
        clear htk hmem he hno
        go_wp2_with fail
        refine HC.out.mono ?_
        rintro e w' ⟨rfl, hb⟩
        have hbn := btt hbr hb
        go_wp2
        go_ret
        exact ⟨_, rfl, by rw [hres.out]; exact h0i, hbn⟩
      · rw [decide_eq_false he] at HC
        replace HC := Lib.hid HC
        have hnx : Hid (x ∉ xs.take (i + 1)) := by
          show ¬ _
          rw [htk, List.mem_append, List.mem_singleton]
          exact fun h => h.elim hno.out fun h => he h.symm
        clear htk hmem he hno
        go_wp2_with fail
        refine HC.out.mono ?_
        rintro e w' ⟨rfl, hb⟩
        have hbn := btt hbr hb
        go_wp2
        go_roundw
        case rel => exact ⟨i + 1, by go_num, hlt, hnx, hbn⟩
        case measure => simp [intOf]; omega
    · have hres : Hid (decide (x ∈ xs) = false) := by
        show _ = _
        have := hno.out
        rw [List.take_of_length_le (by omega)] at this
        exact decide_eq_false this
      clear hno
      go_wp2
      go_ret
      exact ⟨_, rfl, by rw [hres.out]; rfl, hbr⟩
set_option maxRecDepth 100000 in
set_option maxHeartbeats 800000 in
theorem containsW {w : World} {u vv : Value} {bv : Nat} {xs : List (List (List Int))} {x : List (List Int)} (hx : KSS 7 w u xs) (cv : w.cell? ⟨bv, 0, none⟩ = some vv) (hv : KS 7 w vv x) (hin : x ∈ xs) :
    Calls Tryz.prog 26 #[u, .func (.func 24) #[] #[.pointer (some ⟨bv, 0, none⟩)]] w fun e w' => e = .returned (.bool true) ∧ Below w.heap.size w w' := by
  have HI := indexW hx cv hv
  rw [decide_eq_true hin] at HI
  replace HI := Lib.hid HI
  obtain ⟨ua, uc, hu⟩ := hx.shape
  subst hu
  clear hx hv hin
  go_enter Tryz.func26, Tryz.ntmps26
  go_wp2_with fail
  refine HI.out.mono ?_
  rintro e w' ⟨z, rfl, hz, hw'⟩
  go_wp2
  go_ret
  exact ⟨rfl, hw'⟩
end Go.Proofs.YtiiiegflobihjaaGreat

/- Words of Or and of And, plain lists. -/
namespace Go.Proofs.YtiiiegflobihjaaGreat

theorem sum_le_sum {f g : List Int → Nat} : ∀ (l : List (List Int)), (∀ m ∈ l, f m ≤ g m) → (l.map f).sum ≤ (l.map g).sum
  | [], _ => Nat.le_refl _
  | a :: l, h => by
    have h1 := h a (by simp)
    have h2 := sum_le_sum l fun m hm => h m (by simp [hm])
    simp only [List.map_cons, List.sum_cons]; omega
theorem cnt_pos {ss : List (List (List Int))} (h : AdOK ss) : ∀ (k s : Nat), s < ss.length → 1 ≤ cnt ss k s
  | 0, _, _ => Nat.le_refl _
  | k + 1, s, hs => by
    have hm : ss.getD s [] ∈ ss := by rw [getD_eq hs]; exact List.getElem_mem hs
    obtain ⟨h0, _, _, h8⟩ := h.st _ hm
    rw [cnt]
    cases hl : ss.getD s [] with
    | nil => rw [hl] at h0; cases h0
    | cons a r =>
      rw [hl] at h8
      obtain ⟨_, h1, h2⟩ := h8 a (by simp)
      have := cnt_pos h k (mvTo a) (by rw [mvTo]; omega)
      simp only [List.map_cons, List.sum_cons]; omega
theorem cnt_mono {ss : List (List (List Int))} (h : AdOK ss) : ∀ (k s : Nat), s < ss.length → cnt ss k s ≤ cnt ss (k + 1) s
  | 0, s, hs => cnt_pos h 1 s hs
  | k + 1, s, hs => by
    have hm : ss.getD s [] ∈ ss := by rw [getD_eq hs]; exact List.getElem_mem hs
    obtain ⟨_, _, _, h8⟩ := h.st _ hm
    rw [cnt, cnt]
    refine sum_le_sum _ fun m hm => cnt_mono h k (mvTo m) ?_
    obtain ⟨_, h1, h2⟩ := h8 m hm
    rw [mvTo]; omega
/-- An adversary whose words can be listed. -/
structure WdsOK (n : Int) (S : List (List (List Int))) (k : Nat) : Prop where
  ok : AdOK S
  chk : chkA n S = 0
  wd : WdOK S
  num : num S 4097 k ≤ 4096
  pos : 0 < (wL S k 0).length
  len : (wL S k 0).length ≤ 120
  w7 : ∀ u ∈ wL S k 0, W7 u
theorem wdsOK {n : Int} {S : List (List (List Int))} {k : Nat} (hS : AdOK S) (hc : chkA n S = 0) (hl : S.length ≤ 90) (hn : cnt S k 0 ≤ 120) : WdsOK n S k where
  ok := hS
  chk := hc
  wd := hS.wd hc hl
  num := num_of_cnt hS.lead' hS.pos (by omega)
  pos := by rw [wL_len]; exact cnt_pos hS k 0 hS.pos
  len := by rw [wL_len]; exact hn
  w7 := wL_W7 (fun s hs m hm => ((hS.st s hs).2.2.2 m hm).1) k 0
theorem FwA.wds {n : Int} {xs : List (List (List Int))} {k : Nat} (h : FwA n xs) (hc : cnt xs (k + 1) 0 ≤ 60) : WdsOK n xs k ∧ cnt xs k 0 ≤ 60 := by
  have h1 := cnt_mono h.ok k 0 h.ok.pos
  have := h.len
  exact ⟨wdsOK h.ok h.chk (by omega) (by omega), by omega⟩
theorem or_words {n : Int} {xs ys O : List (List (List Int))} {k : Nat} (hx : FwA n xs) (hy : FwA n ys) (cx : cnt xs k 0 ≤ 60) (cy : cnt ys k 0 ≤ 60) (aO : AdOK O) (lO : O.length ≤ 81) (gO : Lg n O (fun w => alw xs w 0 ∨ alw ys w 0)) :
    WdsOK n O k ∧ AscL ((wL O k 0).map List.flatten) ∧ ∀ x, x ∈ wL O k 0 ↔ x ∈ wL xs k 0 ++ wL ys k 0 := by
  have hc := gO.cnt_le hx.ok.asc hx.ok.lead' hy.ok.asc hy.ok.lead' (fun _ h => h) k
  refine ⟨wdsOK aO gO.chk (by omega) (by omega), wL_asc (fun s hs m hm => ((aO.st s hs).2.2.2 m hm).1) aO.asc k 0, fun x => ?_⟩
  rw [List.mem_append, wL_mem gO.asc gO.lead, wL_mem hx.ok.asc hx.ok.lead', wL_mem hy.ok.asc hy.ok.lead', gO.words]
  constructor
  · rintro ⟨h1, h2 | h2⟩
    · exact .inl ⟨h1, h2⟩
    · exact .inr ⟨h1, h2⟩
  · rintro (⟨h1, h2⟩ | ⟨h1, h2⟩)
    · exact ⟨h1, .inl h2⟩
    · exact ⟨h1, .inr h2⟩
theorem and_one {n : Int} {xs ys : List (List (List Int))} {k : Nat} (hx : FwA n xs) (hy : FwA n ys) (cx : cnt xs k 0 ≤ 60) (cy : cnt ys k 0 ≤ 60) : ∃ S, prA true xs ys = some S ∧ ((lvA S).getD 0 false = false ∨ ((lvA S).getD 0 false = true ∧ ∃ T, lvR S = some T ∧ WdsOK n T k ∧ ∀ u ∈ wL T k 0, u ∈ wL xs k 0 ∧ u ∈ wL ys k 0)) := by
  have q1 := hx.len
  have q2 := hy.len
  have q3 := hx.mv
  have q4 := hy.mv
  have k1 : (xs.length + 1) * (ys.length + 1) ≤ 9 * 9 := Nat.mul_le_mul (by omega) (by omega)
  have k2 : (ys.length + 1) * movesN xs ≤ 9 * 40 := Nat.mul_le_mul (by omega) q3
  have k3 : (xs.length + 1) * movesN ys ≤ 9 * 40 := Nat.mul_le_mul (by omega) q4
  obtain ⟨S, hS⟩ := prA_some (bt := true) hx.ok hy.ok (by omega) (by omega)
  refine ⟨S, hS, ?_⟩
  obtain ⟨a1, a2⟩ := and_lg hx.ok hy.ok hx.chk hy.chk hS
  by_cases hl : (lvA S).getD 0 false = true
  · obtain ⟨T, hT, gT⟩ := a2 hl
    obtain ⟨t1, t2, _⟩ := and_small hx hy hS hT gT.chk
    have hsub : ∀ w, (∀ k : Nat, ∃ u : List (List Int), u.length = k ∧ alw xs (w ++ u) 0 ∧ alw ys (w ++ u) 0) → alw xs w 0 ∧ alw ys w 0 := fun w h => by
      obtain ⟨u, _, h1, h2⟩ := h 0
      exact ⟨alw_preG h1, alw_preG h2⟩
    have hc := gT.cnt_le hx.ok.asc hx.ok.lead' hy.ok.asc hy.ok.lead' (fun w h => .inl (hsub w h).1) k
    refine .inr ⟨hl, T, hT, wdsOK t1 gT.chk (by omega) (by omega), fun u hu => ?_⟩
    obtain ⟨h1, h2⟩ := (wL_mem gT.asc gT.lead k 0 u).1 hu
    obtain ⟨h3, h4⟩ := hsub u ((gT.words u).1 h2)
    exact ⟨(wL_mem hx.ok.asc hx.ok.lead' k 0 u).2 ⟨h1, h3⟩, (wL_mem hy.ok.asc hy.ok.lead' k 0 u).2 ⟨h1, h4⟩⟩
  · exact .inl (by simpa using hl)
end Go.Proofs.YtiiiegflobihjaaGreat

/- The law CombineWords. -/
namespace Go.Proofs.YtiiiegflobihjaaGreat
open Go.RowKit

set_option maxRecDepth 100000 in
set_option maxHeartbeats 3200000 in
theorem lawWords {w : World} {u v : Value} {m n r : Int} (hr0 : 0 ≤ r) (hr1 : r ≤ 255) {xs ys : List (List (List Int))} (hx : AdvV w u m xs) (hy : AdvV w v n ys) :
    Calls Tryz.prog 7 #[u, v, .int .u8 r] w fun e w' => e = .returned (.bool true) ∧ Below w.heap.size w w' := by
  obtain ⟨k, hk⟩ : ∃ k, r.toNat % 4 = k := ⟨_, rfl⟩
  have hk4 : k < 4 := by rw [← hk]; exact Nat.mod_lt _ (by decide)
  have hrem : r.tmod 4 = (k : Int) := by
    rw [Int.tmod_eq_emod_of_nonneg hr0, ← hk]
    obtain ⟨a, rfl⟩ : ∃ a : Nat, r = (a : Int) := ⟨r.toNat, by omega⟩
    rw [Int.toNat_natCast]; rfl
  have hkw8 : IntKind.u8.wrap (k : Int) = (k : Int) := IntWalk.u8_in _ (by omega)
  have hkw : IntKind.i64.wrap (k : Int) = (k : Int) := IntWalk.i64_in _ (by omega)
  have hkw1 : IntKind.i64.wrap ((k : Int) + 1) = (k : Int) + 1 := IntWalk.i64_in _ (by omega)
  replace hk := Lib.hid hk
  obtain ⟨xa, xc, hu⟩ := advShape' hx
  obtain ⟨ya, yc, hv⟩ := advShape' hy
  subst hu hv
  obtain ⟨W1, hW1⟩ : ∃ W1, W1 = (w.alloc (.cells #[.int .i64 m, .slice xa xs.length xc] 24)).alloc (.cells #[.int .i64 n, .slice ya ys.length yc] 24) := ⟨_, rfl⟩
  obtain ⟨hb1, ⟨p0, p1⟩, ⟨q0, q1⟩, _, hs1⟩ := boxAdv2 hW1
  replace hs1 := Lib.hid hs1
  obtain ⟨W2, hW2⟩ : ∃ W2, W2 = W1.alloc (.cells #[.int .i64 m, .slice xa xs.length xc, .int .i64 n, .slice ya ys.length yc] 24) := ⟨_, rfl⟩
  have hb2 : Below W1.heap.size W1 W2 := by rw [hW2]; exact (Below.refl _ _).alloc (Nat.le_refl _) _
  have kR : W2.heap[W1.heap.size]? = some (.cells #[.int .i64 m, .slice xa xs.length xc, .int .i64 n, .slice ya ys.length yc] 24) := by rw [hW2]; exact heap_alloc_new _ _
  have HX := Lib.hid (fun W (hb : Below W1.heap.size W1 W) => (hx.keep hb1).keep hb)
  have HY := Lib.hid (fun W (hb : Below W1.heap.size W1 W) => (hy.keep hb1).keep hb)
  obtain ⟨r0, r1, r2, r3⟩ := box4 kR
  have HG0 := goodTwo (HX.out W2 hb2) (HY.out W2 hb2) r0 r1 r2 r3 (k := k + 1) (by omega)
  rw [show ((k + 1 : Nat) : Int) = (k : Int) + 1 by omega, show W1.heap.size = w.heap.size + 1 + 1 from hs1.out] at HG0
  have HG := Lib.hid HG0
  clear HG0
  obtain ⟨G, hG⟩ : ∃ G, (gd1 m m xs (k + 1) && gd1 m n ys (k + 1)) = G := ⟨_, rfl⟩
  rw [hG] at HG
  have HK := Lib.hid (fun W (hb : Below W1.heap.size W1 W) => And.intro (cell_kept hb p0) (And.intro (cell_kept hb p1) (And.intro (cell_kept hb q0) (cell_kept hb q1))))
  clear kR r0 r1 r2 r3
  cases G
  · replace hG := Lib.hid hG
    clear hx hy
    go_enter Tryz.func7, Tryz.ntmps7
    go_wp2_with fail
    rw [← hW1, ← hW2]
    refine HG.out.mono ?_
    rintro e W3 ⟨rfl, hb3⟩
    go_wp2_with fail
    refine (awakeK W3 (bt hb1 (btt hb2 hb3) hb1.size) (Nat.le_trans hb1.size (Nat.le_trans hb2.size hb3.size))).mono ?_
    rintro e W4 ⟨rfl, hb4⟩
    go_wp2
    go_ret
    exact ⟨rfl, hb4⟩
  · have hG2 := hG
    rw [Bool.and_eq_true] at hG2
    obtain ⟨FXx, _, _, cx⟩ := gd1_facts hx.len8 hG2.1
    obtain ⟨FY, _, hnm, cy⟩ := gd1_facts hy.len8 hG2.2
    subst hnm
    obtain ⟨O, hO, aO, lO, gO⟩ := or_lg FXx FY
    obtain ⟨dX, bX⟩ := FXx.wds cx
    obtain ⟨dY, bY⟩ := FY.wds cy
    obtain ⟨dO, hasc, hmem⟩ := or_words FXx FY bX bY aO lO gO
    obtain ⟨S, hS, h2⟩ := and_one FXx FY bX bY
    replace h2 := Lib.hid h2
    have hcX := Lib.hid (fun W (hb : Below W1.heap.size W1 W) => wordsW (HX.out W hb) dX.chk dX.wd (by omega) dX.num)
    have hcY := Lib.hid (fun W (hb : Below W1.heap.size W1 W) => wordsW (HY.out W hb) dY.chk dY.wd (by omega) dY.num)
    obtain ⟨X, hX⟩ : ∃ X, wL xs k 0 = X := ⟨_, rfl⟩
    obtain ⟨Y, hY⟩ : ∃ Y, wL ys k 0 = Y := ⟨_, rfl⟩
    obtain ⟨Z, hZ⟩ : ∃ Z, wL O k 0 = Z := ⟨_, rfl⟩
    have pX := dX.pos
    have pY := dY.pos
    have qX := dX.len
    have qY := dY.len
    have sX := dX.w7
    have sY := dY.w7
    have sZ := dO.w7
    rw [hX] at pX qX sX hmem
    rw [hY] at pY qY sY hmem
    rw [hZ] at hasc hmem sZ
    simp only [hX] at hcX
    simp only [hY] at hcY
    replace sX := Lib.hid sX
    replace sY := Lib.hid sY
    replace sZ := Lib.hid sZ
    replace hasc := Lib.hid hasc
    replace hmem := Lib.hid hmem
    simp only [hX, hY] at h2
    clear hx hy hX hY
    go_enter Tryz.func7, Tryz.ntmps7
    go_wp2_with fail
    rw [← hW1, ← hW2]
    refine HG.out.mono ?_
    rintro e W3 ⟨rfl, hb3⟩
    have B3 := btt hb2 hb3
    obtain ⟨a0, a1, a2, a3⟩ := HK.out W3 B3
    go_wp2_with fail
    clear a0 a1 a2 a3
    refine (hcX.out W3 B3).mono ?_
    rintro e W4 ⟨z, rfl, hK4, hb4⟩
    obtain ⟨sa4, sc4, hs⟩ := hK4.shape
    subst hs
    have B4 := btt B3 hb4
    have K4 := Lib.hid (fun W (hb : Below W4.heap.size W4 W) => KSS.keep hK4 hb)
    clear hK4
    have C4 := Below.refl W4.heap.size W4
    obtain ⟨a0, a1, a2, a3⟩ := HK.out W4 B4
    go_wp2_with fail
    clear a0 a1 a2 a3
    refine (hcY.out W4 B4).mono ?_
    rintro e W5 ⟨z, rfl, hK5, hb5⟩
    obtain ⟨sa5, sc5, hs⟩ := hK5.shape
    subst hs
    have B5 := btt B4 hb5
    replace C4 := btt C4 hb5
    have K5 := Lib.hid (fun W (hb : Below W5.heap.size W5 W) => KSS.keep hK5 hb)
    clear hK5
    have C5 := Below.refl W5.heap.size W5
    obtain ⟨a0, a1, a2, a3⟩ := HK.out W5 B5
    go_wp2_with fail
    clear a0 a1 a2 a3
    refine (orC (HX.out W5 B5) (HY.out W5 B5) FXx.chk FY.chk FXx.ok FY.ok hO).mono ?_
    rintro e W6 ⟨z, rfl, hZ9, hb6⟩
    obtain ⟨sa6, sc6, hs⟩ := advShape' hZ9
    subst hs
    have B6 := btt B5 hb6
    replace C4 := btt C4 hb6
    replace C5 := btt C5 hb6
    obtain ⟨W7, hW7⟩ : ∃ W, W = W6.alloc (.cells #[.int .i64 n, .slice sa6 O.length sc6] 24) := ⟨_, rfl⟩
    have hb7 : Below W6.heap.size W6 W7 := by rw [hW7]; exact (Below.refl _ _).alloc (Nat.le_refl _) _
    have k7 : W7.heap[W6.heap.size]? = some (.cells #[.int .i64 n, .slice sa6 O.length sc6] 24) := by rw [hW7]; exact heap_alloc_new _ _
    have H7 := Lib.hid (fun W (hb : Below W7.heap.size W7 W) => (hZ9.keep hb7).keep hb)
    clear hZ9
    have B7 := btt B6 hb7
    replace C4 := btt C4 hb7
    replace C5 := btt C5 hb7
    have C7 := Below.refl W7.heap.size W7
    obtain ⟨l0x, l0y⟩ := box2 (kept C7 k7)
    rw [hW7] at l0x l0y
    go_wp2_with fail
    rw [← hW7]
    replace hW7 := Lib.hid hW7
    clear l0x l0y
    refine (wordsW (H7.out W7 C7) dO.chk dO.wd (by omega) dO.num).mono ?_
    rintro e W8 ⟨z, rfl, hK8, hb8⟩
    obtain ⟨sa8, sc8, hs⟩ := hK8.shape
    subst hs
    have B8 := btt B7 hb8
    replace C4 := btt C4 hb8
    replace C5 := btt C5 hb8
    replace C7 := btt C7 hb8
    have K8 := Lib.hid (fun W (hb : Below W8.heap.size W8 W) => KSS.keep hK8 hb)
    clear hK8
    have C8 := Below.refl W8.heap.size W8
    rw [hZ] at K8
    obtain ⟨W9, hW9⟩ : ∃ W, W = W8.alloc (.cells #[.slice sa4 X.length sc4, .slice sa5 Y.length sc5] 38) := ⟨_, rfl⟩
    have hb9 : Below W8.heap.size W8 W9 := by rw [hW9]; exact (Below.refl _ _).alloc (Nat.le_refl _) _
    have k9 : W9.heap[W8.heap.size]? = some (.cells #[.slice sa4 X.length sc4, .slice sa5 Y.length sc5] 38) := by rw [hW9]; exact heap_alloc_new _ _
    obtain ⟨g0, g1⟩ := box2 k9
    have B9 := btt B8 hb9
    replace C4 := btt C4 hb9
    replace C5 := btt C5 hb9
    replace C7 := btt C7 hb9
    replace C8 := btt C8 hb9
    have HCc := Lib.hid (concatWs g0 g1 (K4.out W9 C4) (K5.out W9 C5) pX pY (by omega) (by omega))
    clear g0 g1 k9
    go_wp2_with fail
    rw [← hW9]
    replace hW9 := Lib.hid hW9
    refine HCc.out.mono ?_
    rintro e W10 ⟨z, rfl, ho10, hb10⟩
    have HSo := Lib.hid (sortedW (w0 := W9) (q := Z) hb10 (Nat.le_refl _) hb10.size ho10 (by omega) (by omega) (fun u hu => (List.mem_append.1 hu).elim (sX.out u) (sY.out u)) sZ.out hasc.out hmem.out)
    obtain ⟨sa10, sc10, hs⟩ := ho10.shape
    subst hs
    clear ho10
    go_wp2_with fail
    refine HSo.out.mono ?_
    rintro e W11 ⟨z, rfl, hK11, hb11⟩
    have hb911 : Below W9.heap.size W9 W11 := hb10.trans hb11
    have B11 := btt B9 hb911
    replace C4 := btt C4 hb911
    replace C5 := btt C5 hb911
    replace C7 := btt C7 hb911
    replace C8 := btt C8 hb911
    have HSm := sameWords (K8.out W11 C8) hK11
    rw [show decide (Z = Z) = true by simp] at HSm
    replace HSm := Lib.hid HSm
    obtain ⟨sa11, sc11, hs⟩ := hK11.shape
    subst hs
    clear hK11
    go_wp2_with fail
    refine HSm.out.mono ?_
    rintro e W12 ⟨rfl, hq12⟩
    have hb12 := hq12.below
    clear hq12
    have B12 := btt B11 hb12
    replace C4 := btt C4 hb12
    replace C5 := btt C5 hb12
    replace C7 := btt C7 hb12
    replace C8 := btt C8 hb12
    have HCh := Lib.hid (checkA (H7.out W12 C7) (by have := (chkA_facts dO.chk).2.1.2.2; omega))
    rw [dO.chk] at HCh
    obtain ⟨l0x, l0y⟩ := box2 (kept C7 k7)
    go_wp2_with fail
    clear l0x l0y
    refine (HCh.out).mono ?_
    rintro e W13 ⟨rfl, hb13⟩
    have B13 := btt B12 hb13
    replace C4 := btt C4 hb13
    replace C5 := btt C5 hb13
    replace C7 := btt C7 hb13
    replace C8 := btt C8 hb13
    rcases h2.out with l1 | ⟨l1, T, hT, dT, hmT⟩
    · clear h2
      obtain ⟨a0, a1, a2, a3⟩ := HK.out W13 B13
      go_wp2_with fail
      clear a0 a1 a2 a3
      refine (andN (HX.out W13 B13) (HY.out W13 B13) FXx.chk FY.chk FXx.ok FY.ok hS l1).mono ?_
      rintro e W14 ⟨rfl, hb14⟩
      have B14 := btt B13 hb14
      replace C4 := btt C4 hb14
      replace C5 := btt C5 hb14
      replace C7 := btt C7 hb14
      replace C8 := btt C8 hb14
      obtain ⟨W15, hW15⟩ : ∃ W, W = W14.alloc (.cells #[.int .i64 0, .slice none 0 0] 24) := ⟨_, rfl⟩
      have hb15 : Below W14.heap.size W14 W15 := by rw [hW15]; exact (Below.refl _ _).alloc (Nat.le_refl _) _
      have B15 := btt B14 hb15
      replace C4 := btt C4 hb15
      replace C5 := btt C5 hb15
      replace C7 := btt C7 hb15
      replace C8 := btt C8 hb15
      go_wp2_with fail
      rw [← hW15]
      refine (awakeK W15 (bt hb1 B15 hb1.size) (Nat.le_trans hb1.size B15.size)).mono ?_
      rintro e Wz ⟨rfl, hbz⟩
      go_wp2
      go_ret
      exact ⟨rfl, hbz⟩
    · clear h2
      obtain ⟨a0, a1, a2, a3⟩ := HK.out W13 B13
      go_wp2_with fail
      clear a0 a1 a2 a3
      refine (andC (HX.out W13 B13) (HY.out W13 B13) FXx.chk FY.chk FXx.ok FY.ok hS l1 hT).mono ?_
      rintro e W14 ⟨z, rfl, hZ9, hb14⟩
      obtain ⟨sa14, sc14, hs⟩ := advShape' hZ9
      subst hs
      have B14 := btt B13 hb14
      replace C4 := btt C4 hb14
      replace C5 := btt C5 hb14
      replace C7 := btt C7 hb14
      replace C8 := btt C8 hb14
      obtain ⟨W15, hW15⟩ : ∃ W, W = W14.alloc (.cells #[.int .i64 n, .slice sa14 T.length sc14] 24) := ⟨_, rfl⟩
      have hb15 : Below W14.heap.size W14 W15 := by rw [hW15]; exact (Below.refl _ _).alloc (Nat.le_refl _) _
      have k15 : W15.heap[W14.heap.size]? = some (.cells #[.int .i64 n, .slice sa14 T.length sc14] 24) := by rw [hW15]; exact heap_alloc_new _ _
      have H15 := Lib.hid (fun W (hb : Below W15.heap.size W15 W) => (hZ9.keep hb15).keep hb)
      clear hZ9
      have B15 := btt B14 hb15
      replace C4 := btt C4 hb15
      replace C5 := btt C5 hb15
      replace C7 := btt C7 hb15
      replace C8 := btt C8 hb15
      have C15 := Below.refl W15.heap.size W15
      obtain ⟨l0x, l0y⟩ := box2 (kept C15 k15)
      rw [hW15] at l0x l0y
      go_wp2_with fail
      rw [← hW15]
      replace hW15 := Lib.hid hW15
      clear l0x l0y
      refine (wordsW (H15.out W15 C15) dT.chk dT.wd (by omega) dT.num).mono ?_
      rintro e W16 ⟨z, rfl, hK16, hb16⟩
      obtain ⟨sa16, sc16, hs⟩ := hK16.shape
      subst hs
      have B16 := btt B15 hb16
      replace C4 := btt C4 hb16
      replace C5 := btt C5 hb16
      replace C7 := btt C7 hb16
      replace C8 := btt C8 hb16
      replace C15 := btt C15 hb16
      have K16 := Lib.hid (fun W (hb : Below W16.heap.size W16 W) => KSS.keep hK16 hb)
      clear hK16
      have C16 := Below.refl W16.heap.size W16
      have HCi := Lib.hid (checkA (H15.out W16 C15) (by have := (chkA_facts dT.chk).2.1.2.2; omega))
      rw [dT.chk] at HCi
      obtain ⟨V, hV⟩ : ∃ V, wL T k 0 = V := ⟨_, rfl⟩
      rw [hV] at hmT
      replace hmT := Lib.hid hmT
      simp only [hV] at K16 ⊢
      obtain ⟨l0x, l0y⟩ := box2 (kept C15 k15)
      go_wp2_with fail
      clear l0x l0y
      refine (HCi.out).mono ?_
      rintro e W17 ⟨rfl, hb17⟩
      have B17 := btt B16 hb17
      replace C4 := btt C4 hb17
      replace C5 := btt C5 hb17
      replace C7 := btt C7 hb17
      replace C8 := btt C8 hb17
      replace C15 := btt C15 hb17
      replace C16 := btt C16 hb17
      obtain ⟨_, _, vb, vo, hve, hva, hvc, hvl⟩ := K16.out W17 C16
      injection hve with e1 e2 e3
      subst e1 e3
      replace hvc := Lib.hid hvc
      go_wp2_with fail
      go_loopw [106] (fun iv wr => ∃ i : Nat, iv = .int .i64 i ∧ i ≤ V.length ∧ Below W17.heap.size W17 wr) (fun iv _ => V.length - (intOf iv).toNat)
      case atStart => exact ⟨0, rfl, by omega, Below.refl _ _⟩
      case round =>
        obtain ⟨i, rfl, hi, hbr⟩ := hrel
        by_cases hlt : i < V.length
        · obtain rfl := hva (by omega)
          obtain ⟨xu, hxi, hxk⟩ := hvc.out i hlt
          obtain ⟨y, hy⟩ : ∃ y, V.getD i [] = y := ⟨_, rfl⟩
          have hym : y ∈ V := by rw [← hy, getD_eq hlt]; exact List.getElem_mem hlt
          obtain ⟨i1, i2⟩ := hmT.out y hym
          rw [hy] at hxk
          have c0 := cell_kept hbr hxi
          have hxk2 := hxk.keep hbr
          obtain ⟨xsa, xsc, hxs⟩ := hxk.shape
          subst hxs
          obtain ⟨V1, hV1⟩ : ∃ V1, V1 = wr.alloc (.cells #[.slice xsa y.length xsc] 44) := ⟨_, rfl⟩
          have hv1 : Below wr.heap.size wr V1 := by rw [hV1]; exact (Below.refl _ _).alloc (Nat.le_refl _) _
          have hvk : V1.heap[wr.heap.size]? = some (.cells #[.slice xsa y.length xsc] 44 (0, 0)) := by rw [hV1]; exact heap_alloc_new _ _
          have D1 := btt hbr hv1
          have HC1 := Lib.hid (containsW (K4.out V1 (btt C4 D1)) (cell_of_one hvk) (hxk2.keep hv1) i1)
          have HC2 := Lib.hid (fun W (hb : Below V1.heap.size V1 W) => containsW (K5.out W (btt (btt C5 D1) hb)) (cell_kept hb (cell_of_one hvk)) ((hxk2.keep hv1).keep hb) i2)
          clear hxk hxk2 hvk hy i1 i2 hym
          go_wp2_with fail
          rw [← hV1]
          replace hV1 := Lib.hid hV1
          refine HC1.out.mono ?_
          rintro e V2 ⟨rfl, hv2⟩
          go_wp2_with fail
          refine (HC2.out V2 hv2).mono ?_
          rintro e V3 ⟨rfl, hv3⟩
          have D3 := btt (btt D1 hv2) hv3
          go_wp2_with fail
          go_roundw
          case rel => exact ⟨i + 1, by go_num, hlt, D3⟩
          case measure => simp [intOf]; omega
        · have B99 := btt B17 hbr
          go_wp2_with fail
          refine (awakeK wr (bt hb1 B99 hb1.size) (Nat.le_trans hb1.size B99.size)).mono ?_
          rintro e Wz ⟨rfl, hbz⟩
          go_wp2
          go_ret
          exact ⟨rfl, hbz⟩
end Go.Proofs.YtiiiegflobihjaaGreat

/- Readers of arguments: bytes, and lists of words. -/
namespace Go.Proofs.YtiiiegflobihjaaGreat
open Go.RowKit Go.ChangeShapes Go.WideShapes Go.ChangeAt Go.Deep Go.WideElems

section
variable {H : Type} {enc : TypeId × Value → H} {w : World} {base : Nat} {spare : Nat → Bool} {held : Bool}

theorem u8_wf {n : Int} (h : (Lit.int .u8 n).wf = true) : 0 ≤ n ∧ n ≤ 255 := by
  simp [Lit.wf] at h
  have h1 : IntKind.u8.min = 0 := rfl
  have h2 : IntKind.u8.max = 255 := rfl
  omega
end
end Go.Proofs.YtiiiegflobihjaaGreat

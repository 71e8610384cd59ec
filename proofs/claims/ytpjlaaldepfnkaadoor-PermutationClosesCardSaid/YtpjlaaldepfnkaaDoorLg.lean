/- Generated groups; the law PermutationCloses: the walk. -/
import Derived.Test.YtpjlaaldepfnkaaDoorLf
import Derived.Test.YtpjlaaldepfnkaaDoorLc
namespace Go.Proofs.YtpjlaaldepfnkaaDoor

/-- A group of permutations of n processes. -/
structure Grp (n : Nat) (G : List (List Int)) : Prop where
  nodup : G.Nodup
  isP : ∀ y ∈ G, IsP n y
  one : oneL n ∈ G
  mul : ∀ y ∈ G, ∀ z ∈ G, timesL y z ∈ G

theorem closure_grp {n : Nat} (hn : n ≤ 5) {l G : List (List Int)} (hl : ∀ a ∈ l, IsP n a) (hG : clGo l 3126 0 [oneL n] = some G) (hI : InvG n G) : Grp n G ∧ ∀ a ∈ l, a ∈ G := by
  obtain ⟨h1, h2⟩ := clGo_sub hG (by intro j hj; omega)
  have hone : oneL n ∈ G := h1 _ (by simp)
  have hmul : ∀ y ∈ G, ∀ z ∈ G, timesL y z ∈ G := by
    have key : ∀ y ∈ G, IsP n y ∧ ∀ z ∈ G, timesL y z ∈ G := by
      refine clGo_all (Q := fun y => IsP n y ∧ ∀ z ∈ G, timesL y z ∈ G) ?_ ?_ hG
      · rintro a ha y ⟨k1, k2⟩
        refine ⟨(hl a ha).times k1, fun z hz => ?_⟩
        rw [times_assoc k1.1 (hI.2 z hz)]
        exact h2 _ (k2 z hz) a ha
      · intro y hy
        rw [List.mem_singleton.1 hy]
        exact ⟨IsP.one n, fun z hz => by rw [times_one (hI.2 z hz)]; exact hz⟩
    exact fun y hy => (key y hy).2
  refine ⟨⟨hI.1, hI.2, hone, hmul⟩, fun a ha => ?_⟩
  have := h2 _ hone a ha
  rwa [one_times (hl a ha)] at this

theorem times_inj {n : Nat} (h1 : 1 ≤ n) (h5 : n ≤ 5) {x y z : List Int} (hx : IsP n x) (hy : IsP n y) (hz : IsP n z) (h : timesL x y = timesL x z) : y = z := by
  have hc := chk_of h1 h5 hx
  obtain ⟨k1, _, _⟩ := back_left hc
  have e1 := times_assoc (a := backL x) hx.1 hy
  have e2 := times_assoc (a := backL x) hx.1 hz
  rw [k1, hx.1] at e1 e2
  rw [times_one hy] at e1
  rw [times_one hz] at e2
  rw [e1, h, ← e2]
theorem nodup_maps {f : List Int → List Int} : ∀ {l : List (List Int)}, l.Nodup → (∀ x ∈ l, ∀ y ∈ l, f x = f y → x = y) → (l.map f).Nodup
  | [], _, _ => by simp
  | x :: l, h, hf => by
    rw [List.nodup_cons] at h
    rw [List.map_cons, List.nodup_cons]
    refine ⟨fun hm => ?_, nodup_maps h.2 fun a ha b hb => hf a (by simp [ha]) b (by simp [hb])⟩
    obtain ⟨y, hy, e⟩ := List.mem_map.1 hm
    rw [hf y (by simp [hy]) x (by simp) e] at hy
    exact h.1 hy
theorem Grp.inv {n : Nat} (h1 : 1 ≤ n) (h5 : n ≤ 5) {G : List (List Int)} (hG : Grp n G) {y : List Int} (hy : y ∈ G) : backL y ∈ G := by
  have hyP := hG.isP y hy
  have hc := chk_of h1 h5 hyP
  have hm : oneL n ∈ G.map (timesL y) := by
    by_cases h : oneL n ∈ G.map (timesL y)
    · exact h
    · have hnd : (G.map (timesL y)).Nodup := nodup_maps hG.nodup fun a ha b hb e => times_inj h1 h5 hyP (hG.isP a ha) (hG.isP b hb) e
      have : (oneL n :: G.map (timesL y)).length ≤ G.length := nodup_le (List.nodup_cons.2 ⟨h, hnd⟩) fun x hx => by
        rcases List.mem_cons.1 hx with rfl | hx
        · exact hG.one
        · obtain ⟨z, hz, rfl⟩ := List.mem_map.1 hx
          exact hG.mul y hy z hz
      rw [List.length_cons, List.length_map] at this
      omega
  obtain ⟨z, hz, e⟩ := List.mem_map.1 hm
  obtain ⟨k1, k2, k3⟩ := back_left hc
  have hB : IsP n (backL y) := by have := chk_isP k3; rwa [show (backL y).length = n by rw [backL, movedL_length, hyP.1]] at this
  have : z = backL y := times_inj h1 h5 hyP (hG.isP z hz) hB (by rw [e, k2, hyP.1])
  rwa [← this]

theorem same_len {α : Type} [DecidableEq α] {l m : List α} (hl : l.Nodup) (hm : m.Nodup) (h : ∀ x, x ∈ l ↔ x ∈ m) : l.length = m.length :=
  Nat.le_antisymm (nodup_le hl fun x hx => (h x).1 hx) (nodup_le hm fun x hx => (h x).2 hx)
theorem filter_split {α : Type} (p : α → Bool) : ∀ l : List α, l.length = (l.filter p).length + (l.filter fun x => !p x).length
  | [] => rfl
  | x :: l => by
    have := filter_split p l
    by_cases h : p x = true <;> simp [h] <;> omega
/-- Lagrange. -/
theorem lagrange {n : Nat} (h1 : 1 ≤ n) (h5 : n ≤ 5) {G : List (List Int)} (hG : Grp n G) : ∀ (N : Nat) (L : List (List Int)), L.length ≤ N → L.Nodup → (∀ x ∈ L, IsP n x) → (∀ x ∈ L, ∀ h ∈ G, timesL x h ∈ L) → ∃ q, L.length = q * G.length
  | 0, L, hN, _, _, _ => ⟨0, by omega⟩
  | N + 1, [], _, _, _, _ => ⟨0, by simp⟩
  | N + 1, x :: R, hN, hnd, hP, hc => by
    have hx := hP x (by simp)
    have hCnd : (G.map (timesL x)).Nodup := nodup_maps hG.nodup fun a ha b hb e => times_inj h1 h5 hx (hG.isP a ha) (hG.isP b hb) e
    have hxc : x ∈ G.map (timesL x) := List.mem_map.2 ⟨oneL n, hG.one, one_times hx⟩
    have e := filter_split (fun y => decide (y ∈ G.map (timesL x))) (x :: R)
    have e1 : ((x :: R).filter fun y => decide (y ∈ G.map (timesL x))).length = G.length := by
      rw [show G.length = (G.map (timesL x)).length by simp]
      refine same_len (hnd.filter _) hCnd fun y => ?_
      rw [List.mem_filter]
      constructor
      · intro h; simpa using h.2
      · intro h
        obtain ⟨z, hz, rfl⟩ := List.mem_map.1 h
        exact ⟨hc x (by simp) z hz, by simpa using ⟨z, hz, rfl⟩⟩
    have e2 : ((x :: R).filter fun y => !decide (y ∈ G.map (timesL x))).length ≤ N := by
      have h2 : 1 ≤ G.length := by
        have := hG.one
        cases hgg : G with
        | nil => rw [hgg] at this; cases this
        | cons => simp
      rw [e1] at e
      omega
    obtain ⟨q, hq⟩ := lagrange h1 h5 hG N ((x :: R).filter fun y => !decide (y ∈ G.map (timesL x))) e2 (hnd.filter _) (fun y hy => hP y (List.mem_filter.1 hy).1) fun y hy h hh => by
      obtain ⟨y1, y2⟩ := List.mem_filter.1 hy
      have hyP := hP y y1
      have hhP := hG.isP h hh
      rw [List.mem_filter]
      refine ⟨hc y y1 h hh, ?_⟩
      have y2' : y ∉ G.map (timesL x) := by simpa using y2
      have : timesL y h ∉ G.map (timesL x) := fun hm => y2' (by
        obtain ⟨g, hg, e⟩ := List.mem_map.1 hm
        have hi := hG.inv h1 h5 hh
        have hhc := chk_of h1 h5 hhP
        obtain ⟨_, k2, k3⟩ := back_left hhc
        have hB := hG.isP _ hi
        refine List.mem_map.2 ⟨timesL g (backL h), hG.mul g hg _ hi, ?_⟩
        rw [← times_assoc (hG.isP g hg).1 hB, e, times_assoc hhP.1 hB, k2, hhP.1]
        exact one_times hyP)
      simpa using this
    exact ⟨q + 1, by rw [e, e1, hq, Nat.add_mul, Nat.one_mul, Nat.add_comm]⟩
termination_by N => N

/-- What the law PermutationCloses asks of the generated group. -/
structure Closed (k : Nat) (l g : List (List Int)) : Prop where
  pos : 0 < g.length
  le : g.length ≤ (everyL k).length
  dvd : (everyL k).length % g.length = 0
  one : amongB g (oneL k) = true
  isP : ∀ a ∈ g, IsP k a
  inv : ∀ a ∈ g, amongB g (backL a) = true
  mul : ∀ a ∈ g, ∀ b ∈ l, amongB g (timesL a b) = true
  gen : ∀ b ∈ l, amongB g b = true
  asc : ∀ i, i + 1 < g.length → cmpL (g.getD i []) (g.getD (i + 1) []) < 0

theorem every_nodup (n : Nat) (hn : n ≤ 5) : (everyL n).Nodup :=
  (every_sorted n hn).imp fun {a b} h e => by subst e; exact cmpL_asymm _ _ h h
theorem genR_closed {k : Nat} {l : List (List Int)} (hz : chkList k l = 0) : Closed k l (genR k l) := by
  obtain ⟨hn, hl, hP⟩ := chkList_ok hz
  have h1 : 1 ≤ k := by omega
  have h5 : k ≤ 5 := by omega
  rw [Int.toNat_natCast] at hP
  obtain ⟨G, hG, hI⟩ := clGo_start (n := k) h5 hP
  obtain ⟨hGr, hgen⟩ := closure_grp h5 hP hG hI
  have hL : genR k l = (everyL k).filter (fun x => decide (x ∈ G)) := by rw [genR, if_pos hz, closL, Int.toNat_natCast, hG]; rfl
  have hm : ∀ x, x ∈ genR k l ↔ x ∈ G := fun x => by
    rw [hL, List.mem_filter]
    constructor
    · intro h; simpa using h.2
    · intro h; exact ⟨mem_everyL.2 (hI.2 x h), by simpa using h⟩
  have hlen : (genR k l).length = G.length := same_len (by rw [hL]; exact (every_nodup k h5).filter _) hI.1 hm
  have hpos : 0 < G.length := by
    have := hGr.one
    cases hgg : G with
    | nil => rw [hgg] at this; cases this
    | cons => simp
  have ham : ∀ x, x ∈ G → amongB (genR k l) x = true := fun x hx => by rw [amongB, decide_eq_true_eq, hm]; exact hx
  refine ⟨by omega, ?_, ?_, ham _ hGr.one, fun a ha => hI.2 a ((hm a).1 ha), fun a ha => ham _ (hGr.inv h1 h5 ((hm a).1 ha)), fun a ha b hb => ham _ (hGr.mul a ((hm a).1 ha) b (hgen b hb)), fun b hb => ham b (hgen b hb), fun i hi => ?_⟩
  · rw [hL]; exact List.length_filter_le _ _
  · obtain ⟨q, hq⟩ := lagrange h1 h5 hGr _ (everyL k) (Nat.le_refl _) (every_nodup k h5) (fun x hx => mem_everyL.1 hx) fun x hx h hh => mem_everyL.2 ((mem_everyL.1 hx).times (hI.2 h hh))
    rw [hlen, hq, Nat.mul_mod_left]
  · have := (every_sorted k h5).filter (fun x => decide (x ∈ G))
    rw [← hL, List.pairwise_iff_getElem] at this
    rw [getD_eq (by omega), getD_eq hi]
    exact this i (i + 1) (by omega) hi (by omega)
end Go.Proofs.YtpjlaaldepfnkaaDoor
namespace Go.Proofs.YtpjlaaldepfnkaaDoor
open Go.RowKit

theorem wf_u8 {n : Int} (h : (Lit.int .u8 n).wf = true) : 0 ≤ n ∧ n < 256 := by
  simp only [Lit.wf, IntKind.signed, IntKind.bits, IntKind.min, IntKind.max, Bool.and_eq_true] at h
  obtain ⟨h1, h2⟩ := h
  refine ⟨by simpa using h1, ?_⟩
  have : n ≤ 255 := by simpa using h2
  omega
theorem amongT {w : World} {u v : Value} {xs : List (List Int)} {y : List Int} (hm : amongB xs y = true) (h : Intss w u xs) (h' : Ints w v y) : Calls Tryd.prog 35 #[u, v] w fun e w' => e = .returned (.bool true) ∧ Qt w w' := by
  have := refAmong h h'
  rwa [hm] at this

theorem OII.get {w : World} {B n gb c : Nat} {xss : List (List Int)} (h : OII w B (.slice (some ⟨gb, 0, none⟩) n c) n xss) {j : Nat} (hj : j < n) : ∃ u, w.cell? ⟨gb, j, none⟩ = some u ∧ OI w 0 u (xss.getD j []).length (xss.getD j []) := by
  obtain ⟨a, c', b, hv, ha, hc⟩ := h.open'
  injection hv with e1 _ _
  rw [ha (by omega)] at e1
  injection e1 with e1
  injection e1 with e1
  subst e1
  exact hc j hj

set_option maxRecDepth 100000 in
set_option maxHeartbeats 6400000 in
theorem lawCloses {w : World} {v : Value} {l : List (List Int)} {n : Int} (hn : (Lit.int .u8 n).wf = true) (h0 : Intss w v l) : Calls Tryd.prog 7 #[.int .u8 n, v] w (Yes w) := by
  obtain ⟨hn0, hn1⟩ := wf_u8 hn
  clear hn
  have hb : Below w.heap.size w w := Below.refl _ _
  have hsh : ∃ x y, v = .slice x l.length y := by obtain ⟨x, y, _, _, h, _⟩ := h0; exact ⟨x, y, h⟩
  obtain ⟨x0, y0, rfl⟩ := hsh
  by_cases hl : 4 < l.length
  · go_enter Tryd.func7, Tryd.ntmps7
    go_wp2_with fail
    refine (awake _).mono ?_; rintro e w1 ⟨rfl, hs⟩
    replace hb := btt hb hs; clear hs
    go_wp2
    go_ret
    exact ⟨rfl, hb⟩
  · obtain ⟨k, hk⟩ : ∃ k : Nat, n % 4 + 1 = (k : Int) := ⟨(n % 4 + 1).toNat, by omega⟩
    have hk1 : 1 ≤ k := by omega
    have hk4 : k ≤ 4 := by omega
    by_cases hz : chkList k l = 0
    · have hC := genR_closed hz
      obtain ⟨_, _, hlP⟩ := chkList_ok hz
      rw [Int.toNat_natCast] at hlP
      obtain ⟨g, hg⟩ : ∃ g, genR k l = g := ⟨_, rfl⟩
      have hg5 := genR_le k l
      rw [hg] at hC hg5
      have hA : allL k = everyL k := by rw [allL, if_pos (by rw [numE, if_neg (by omega)]), Int.toNat_natCast]
      have hN : numE (k : Int) = 0 := by rw [numE, if_neg (by omega)]
      have hAl := everyL_le k (by omega)
      obtain ⟨A, hAA⟩ : ∃ A, everyL k = A := ⟨_, rfl⟩
      obtain ⟨gpos, gle, gdvd, gone, gisP, ginv, gmul, ggen, gasc⟩ := hC
      rw [hAA] at hA gle gdvd hAl
      obtain ⟨hg5a, hg5b⟩ := hg5
      have hdv : ((A.length : Int) % (g.length : Int) = 0) := by rw [← Int.natCast_emod, gdvd]; rfl
      have hg00 : ((g.length : Int) == 0) = false := beq_eq_false_iff_ne.2 (by omega)
      have hgne : ((g.length : Int) ≠ 0) := by omega
      have hgle : ((g.length : Int) ≤ A.length) := by omega
      have hd1 : decide ((4 : Int) < (l.length : Int)) = false := decide_eq_false (by omega)
      have hd2 : decide (A.length < g.length) = false := decide_eq_false (by omega)
      clear gdvd hAA
      replace hz := Lib.hid hz; replace hg := Lib.hid hg; replace hA := Lib.hid hA; replace hN := Lib.hid hN; replace hk := Lib.hid hk
      replace hg5b := Lib.hid hg5b; replace gone := Lib.hid gone; replace gisP := Lib.hid gisP; replace ginv := Lib.hid ginv; replace gmul := Lib.hid gmul; replace ggen := Lib.hid ggen; replace gasc := Lib.hid gasc; replace hlP := Lib.hid hlP
      replace hdv := Lib.hid hdv
      go_enter Tryd.func7, Tryd.ntmps7
      go_wp2_with fail
      rw [hk.out]
      have H := refList k h0
      rw [hz.out] at H
      refine H.mono ?_; rintro e w1 ⟨rfl, hs⟩
      clear H
      replace hs := hs.below
      replace h0 := h0.keep hs
      replace hb := btt hb hs; clear hs
      go_wp2_with fail
      have H := generate k h0
      rw [hg.out, hz.out] at H
      refine (H).mono ?_; rintro e w2 ⟨r1, rfl, ho1, hs⟩
      replace h0 := h0.keep hs
      replace hb := btt hb hs; clear hs
      go_wp2_with fail
      clear H
      have H := allCall k w2
      rw [hA.out, hN.out] at H
      refine (H).mono ?_; rintro e w3 ⟨r2, rfl, ho2, hs⟩
      replace h0 := h0.keep hs
      replace ho1 := ho1.keep hs
      replace hb := btt hb hs; clear hs
      clear H
      have hd := hdv.out
      obtain ⟨ga, gc, gb, rfl, hga, hgc⟩ := ho1.open'
      obtain ⟨aa, ac, ab, rfl, haa, hac⟩ := ho2.open'
      obtain rfl := hga gpos
      clear haa hac hga hgc ho2
      replace ho1 := ho1.base (Nat.zero_le _)
      go_wp2_with fail
      refine (refOne k _ (by omega)).mono ?_; rintro e w4 ⟨r3, rfl, ho3, hs⟩
      replace h0 := h0.keep hs
      replace ho1 := ho1.keep hs
      replace hb := btt hb hs; clear hs
      go_wp2_with fail
      refine (amongT gone.out (ho1.intss (by omega) (fun x hx => by have := hg5b.out x hx; omega)) (ho3.ints (by omega))).mono ?_; rintro e w5 ⟨rfl, hs⟩
      replace hs := hs.below
      replace h0 := h0.keep hs
      replace ho1 := ho1.keep hs
      replace hb := btt hb hs; clear hs
      clear ho3
      clear hd
      go_wp2
      obtain ⟨wb, hwb⟩ : ∃ wb, wb = w5 := ⟨_, rfl⟩
      rw [← hwb] at h0 ho1 hb ⊢
      clear hwb
      go_loopw [78] (fun iv wr => ∃ i : Nat, i ≤ g.length ∧ iv = .int .i64 i ∧ Intss wr (.slice x0 l.length y0) l ∧ OII wr 0 (.slice (some ⟨gb, 0, none⟩) g.length gc) g.length g ∧ Below w.heap.size w wr) (fun iv _ => g.length - (intOf iv).toNat)
      case atStart => exact ⟨0, by omega, rfl, h0, ho1, hb⟩
      case round =>
        clear h0 ho1 hb
        obtain ⟨i, hi, rfl, h0, ho1, hb⟩ := hrel
        by_cases hlt : i < g.length
        · obtain ⟨u, hcu, hu⟩ := ho1.get hlt
          obtain ⟨a, ha⟩ : ∃ a, g.getD i [] = a := ⟨_, rfl⟩
          have hmem : a ∈ g := by rw [← ha, getD_eq hlt]; exact List.getElem_mem hlt
          have haP := gisP.out a hmem
          rw [ha] at hu
          have hau := haP.ints (by omega) hu
          have hbk := Lib.hid (ginv.out a hmem)
          have hmu := Lib.hid (gmul.out a hmem)
          have hBP : IsP k (backL a) := by
            obtain ⟨_, _, k3⟩ := back_left (chk_of hk1 (by omega) haP)
            have := chk_isP k3
            rwa [show (backL a).length = k by rw [backL, movedL_length, haP.1]] at this
          replace ha := Lib.hid ha
          clear hmem hu
          by_cases hi0 : i = 0
          · subst hi0
            go_wp2_with fail
            refine (inverseP hk1 (by omega) haP hau).mono ?_; rintro e w10 ⟨r6, rfl, ho6, hs⟩
            replace h0 := h0.keep hs
            replace ho1 := ho1.keep hs
            replace hau := hau.keep hs
            replace hb := btt hb hs; clear hs
            go_wp2_with fail
            refine (amongT hbk.out (ho1.intss (by omega) (fun x hx => by have := hg5b.out x hx; omega)) (hBP.ints (by omega) ho6)).mono ?_; rintro e w11 ⟨rfl, hs⟩
            replace hs := hs.below
            replace h0 := h0.keep hs
            replace ho1 := ho1.keep hs
            replace hau := hau.keep hs
            replace hb := btt hb hs; clear hs
            clear ho6
            go_wp2
            obtain ⟨wc, hwc⟩ : ∃ wc, wc = w11 := ⟨_, rfl⟩
            rw [← hwc] at h0 ho1 hau hb ⊢
            clear hwc hcu
            go_loopw [112] (fun kv wr => ∃ q : Nat, q ≤ l.length ∧ kv = .int .i64 q ∧ Intss wr (.slice x0 l.length y0) l ∧ OII wr 0 (.slice (some ⟨gb, 0, none⟩) g.length gc) g.length g ∧ Ints wr u a ∧ Below w.heap.size w wr) (fun kv _ => l.length - (intOf kv).toNat)
            case atStart => exact ⟨0, by omega, rfl, h0, ho1, hau, hb⟩
            case round =>
              clear h0 ho1 hau hb
              obtain ⟨q, hq, rfl, h0, ho1, hau, hb⟩ := hrel
              by_cases hlq : q < l.length
              · obtain ⟨la, lc, lb, lo, hv, hla, hlc, _⟩ := id h0
                injection hv with e1 _ e3
                rw [hla (by omega)] at e1
                subst e1
                obtain ⟨ub, hcb, hbi⟩ := hlc q hlq
                obtain ⟨b, hbb⟩ : ∃ b, l.getD q [] = b := ⟨_, rfl⟩
                have hbm : b ∈ l := by rw [← hbb, getD_eq hlq]; exact List.getElem_mem hlq
                have hbP := hlP.out b hbm
                rw [hbb] at hbi
                have hm1 := Lib.hid (hmu.out b hbm)
                have hm2 := Lib.hid (ggen.out b hbm)
                have hxP := haP.times hbP
                clear hbb hbm hla hlc e3 lc
                go_wp2_with fail
                refine (composeP hk1 (by omega) haP hbP hau hbi).mono ?_; rintro e w20 ⟨r7, rfl, ho7, hs⟩
                replace h0 := h0.keep hs
                replace ho1 := ho1.keep hs
                replace hau := hau.keep hs
                replace hbi := hbi.keep hs
                replace hb := btt hb hs; clear hs
                go_wp2_with fail
                refine (amongT hm1.out (ho1.intss (by omega) (fun x hx => by have := hg5b.out x hx; omega)) (hxP.ints (by omega) ho7)).mono ?_; rintro e w21 ⟨rfl, hs⟩
                replace hs := hs.below
                replace h0 := h0.keep hs
                replace ho1 := ho1.keep hs
                replace hau := hau.keep hs
                replace hbi := hbi.keep hs
                replace hb := btt hb hs; clear hs
                clear ho7
                go_wp2_with fail
                refine (amongT hm2.out (ho1.intss (by omega) (fun x hx => by have := hg5b.out x hx; omega)) hbi).mono ?_; rintro e w22 ⟨rfl, hs⟩
                replace hs := hs.below
                replace h0 := h0.keep hs
                replace ho1 := ho1.keep hs
                replace hau := hau.keep hs
                replace hbi := hbi.keep hs
                replace hb := btt hb hs; clear hs
                go_wp2
                go_roundw
                case rel => exact ⟨q + 1, by omega, by go_num, h0, ho1, hau, hb⟩
                case measure => simp [intOf]; omega
              · obtain rfl : q = l.length := by omega
                go_wp2
                go_roundw
                case rel => exact ⟨0 + 1, by omega, by go_num, h0, ho1, hb⟩
                case measure => simp [intOf]; omega
          · obtain ⟨j, rfl⟩ : ∃ j, i = j + 1 := ⟨i - 1, by omega⟩
            have hasc := gasc.out j hlt
            rw [ha.out] at hasc
            obtain ⟨p, hp0⟩ : ∃ p, g.getD j [] = p := ⟨_, rfl⟩
            have hpP : IsP k p := gisP.out p (by rw [← hp0, getD_eq (by omega)]; exact List.getElem_mem _)
            rw [hp0] at hasc
            replace hp0 := Lib.hid hp0
            have hge : decide (0 ≤ cmpL p a) = false := decide_eq_false (by omega)
            clear hi0
            go_wp2_with fail
            refine (inverseP hk1 (by omega) haP hau).mono ?_; rintro e w10 ⟨r6, rfl, ho6, hs⟩
            replace h0 := h0.keep hs
            replace ho1 := ho1.keep hs
            replace hau := hau.keep hs
            replace hb := btt hb hs; clear hs
            go_wp2_with fail
            refine (amongT hbk.out (ho1.intss (by omega) (fun x hx => by have := hg5b.out x hx; omega)) (hBP.ints (by omega) ho6)).mono ?_; rintro e w11 ⟨rfl, hs⟩
            replace hs := hs.below
            replace h0 := h0.keep hs
            replace ho1 := ho1.keep hs
            replace hau := hau.keep hs
            replace hb := btt hb hs; clear hs
            clear ho6
            obtain ⟨pv, hcp, hp⟩ := ho1.get (j := j) (by omega)
            rw [hp0.out] at hp
            replace hp := hpP.ints (by omega) hp
            go_wp2_with fail
            refine (slCompare hp hau).mono ?_; rintro e w12 ⟨rfl, hs⟩
            replace hs := hs.below
            replace h0 := h0.keep hs
            replace ho1 := ho1.keep hs
            replace hau := hau.keep hs
            replace hb := btt hb hs; clear hs
            clear hp
            clear hcp
            go_wp2
            obtain ⟨wc, hwc⟩ : ∃ wc, wc = w12 := ⟨_, rfl⟩
            rw [← hwc] at h0 ho1 hau hb ⊢
            clear hwc hcu
            go_loopw [112] (fun kv wr => ∃ q : Nat, q ≤ l.length ∧ kv = .int .i64 q ∧ Intss wr (.slice x0 l.length y0) l ∧ OII wr 0 (.slice (some ⟨gb, 0, none⟩) g.length gc) g.length g ∧ Ints wr u a ∧ Below w.heap.size w wr) (fun kv _ => l.length - (intOf kv).toNat)
            case atStart => exact ⟨0, by omega, rfl, h0, ho1, hau, hb⟩
            case round =>
              clear h0 ho1 hau hb
              obtain ⟨q, hq, rfl, h0, ho1, hau, hb⟩ := hrel
              by_cases hlq : q < l.length
              · obtain ⟨la, lc, lb, lo, hv, hla, hlc, _⟩ := id h0
                injection hv with e1 _ e3
                rw [hla (by omega)] at e1
                subst e1
                obtain ⟨ub, hcb, hbi⟩ := hlc q hlq
                obtain ⟨b, hbb⟩ : ∃ b, l.getD q [] = b := ⟨_, rfl⟩
                have hbm : b ∈ l := by rw [← hbb, getD_eq hlq]; exact List.getElem_mem hlq
                have hbP := hlP.out b hbm
                rw [hbb] at hbi
                have hm1 := Lib.hid (hmu.out b hbm)
                have hm2 := Lib.hid (ggen.out b hbm)
                have hxP := haP.times hbP
                clear hbb hbm hla hlc e3 lc
                go_wp2_with fail
                refine (composeP hk1 (by omega) haP hbP hau hbi).mono ?_; rintro e w20 ⟨r7, rfl, ho7, hs⟩
                replace h0 := h0.keep hs
                replace ho1 := ho1.keep hs
                replace hau := hau.keep hs
                replace hbi := hbi.keep hs
                replace hb := btt hb hs; clear hs
                go_wp2_with fail
                refine (amongT hm1.out (ho1.intss (by omega) (fun x hx => by have := hg5b.out x hx; omega)) (hxP.ints (by omega) ho7)).mono ?_; rintro e w21 ⟨rfl, hs⟩
                replace hs := hs.below
                replace h0 := h0.keep hs
                replace ho1 := ho1.keep hs
                replace hau := hau.keep hs
                replace hbi := hbi.keep hs
                replace hb := btt hb hs; clear hs
                clear ho7
                go_wp2_with fail
                refine (amongT hm2.out (ho1.intss (by omega) (fun x hx => by have := hg5b.out x hx; omega)) hbi).mono ?_; rintro e w22 ⟨rfl, hs⟩
                replace hs := hs.below
                replace h0 := h0.keep hs
                replace ho1 := ho1.keep hs
                replace hau := hau.keep hs
                replace hbi := hbi.keep hs
                replace hb := btt hb hs; clear hs
                go_wp2
                go_roundw
                case rel => exact ⟨q + 1, by omega, by go_num, h0, ho1, hau, hb⟩
                case measure => simp [intOf]; omega
              · obtain rfl : q = l.length := by omega
                go_wp2
                go_roundw
                case rel => exact ⟨j + 1 + 1, by omega, by go_num, h0, ho1, hb⟩
                case measure => simp [intOf]; omega
        · obtain rfl : i = g.length := by omega
          go_wp2_with fail
          refine (awake _).mono ?_; rintro e w30 ⟨rfl, hs⟩
          replace hb := bt hb hs hb.size
          go_wp2
          go_ret
          exact ⟨rfl, hb⟩
    · have hz' : (chkList k l != 0) = true := by simpa using hz
      obtain ⟨E, hE⟩ : ∃ E, chkList k l = E := ⟨_, rfl⟩
      rw [hE] at hz'
      replace hk := Lib.hid hk; replace hE := Lib.hid hE
      clear hz
      go_enter Tryd.func7, Tryd.ntmps7
      go_wp2_with fail
      rw [hk.out]
      have H := refList k h0
      rw [hE.out] at H
      refine H.mono ?_; rintro e w1 ⟨rfl, hs⟩
      clear H
      replace hb := btt hb hs.below; clear hs
      go_wp2_with fail
      refine (awake _).mono ?_; rintro e w2 ⟨rfl, hs⟩
      replace hb := btt hb hs; clear hs
      go_wp2
      go_ret
      exact ⟨rfl, hb⟩
end Go.Proofs.YtpjlaaldepfnkaaDoor

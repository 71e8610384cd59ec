/- Texts of this claim, put together: F1 M2 M3 W0. -/
import Derived.Test.YtfihpofdoffclaaGreatDoorKv
import Derived.Test.YtfihpofdoffclaaGreatDoorKs
import Derived.Test.YtfihpofdoffclaaGreatDoorKt
import Derived.Test.YtfihpofdoffclaaGreatDoorKu
import Derived.Test.YtfihpofdoffclaaGreatDoorKq

/- canonical.Verify: the errors. -/
namespace Go.Proofs.YtfihpofdoffclaaGreatDoor
open Go.RowKit

set_option maxRecDepth 100000 in
set_option maxHeartbeats 800000 in
theorem verifyErr {w : World} {v pv : Value} {n : Int} {ss ps : List (List (List Int))} (hA : AdvV w v n ss) (hm : movesN ss ≤ 1000000000) (hP : KSS 7 w pv ps) (h0 : chkA n ss ≠ 0) :
    Calls Tryz.prog 29 #[v, pv] w fun e w' => e = .returned (.int .i64 (verI n ss ps)) ∧ Below w.heap.size w w' := by
  obtain ⟨sa, sc, hv⟩ := advShape' hA
  subst hv
  obtain ⟨pa, pc, rfl⟩ := hP.shape
  obtain ⟨W1, hW1⟩ : ∃ W1, W1 = w.alloc (.cells #[.int .i64 n, .slice sa ss.length sc] 24) := ⟨_, rfl⟩
  obtain ⟨hb1, p0, p1, _⟩ := boxAdv hW1
  have HC := Lib.hid (checkA (hA.keep hb1) hm)
  rw [verI, if_pos h0]
  obtain ⟨E, hE⟩ : ∃ E, chkA n ss = E := ⟨_, rfl⟩
  rw [hE] at HC h0 ⊢
  have h1 : (E == 0) = false := by simp [h0]
  clear hA hE hP
  go_enter Tryz.func29, Tryz.ntmps29
  go_wp2_with fail
  rw [← hW1]
  refine HC.out.mono ?_
  rintro e W2 ⟨rfl, hb2⟩
  have hb02 := bt hb1 hb2 hb1.size
  go_wp2_with fail
  go_ret
  exact ⟨rfl, hb02⟩
set_option maxRecDepth 100000 in
set_option maxHeartbeats 800000 in
theorem verifyShape {w : World} {v pv : Value} {n : Int} {ss ps : List (List (List Int))} (hA : AdvV w v n ss) (hl : ss.length ≤ 90) (hm : movesN ss ≤ 90) (hP : KSS 7 w pv ps) (h0 : chkA n ss = 0) (hlen : ps.length ≠ ss.length - 1 + tri ss.length) :
    Calls Tryz.prog 29 #[v, pv] w fun e w' => e = .returned (.int .i64 (verI n ss ps)) ∧ Below w.heap.size w w' := by
  obtain ⟨sa, sc, hv⟩ := advShape' hA
  subst hv
  obtain ⟨pa, pc, pb, po, rfl, _, _, hpl⟩ := hP
  obtain ⟨W1, hW1⟩ : ∃ W1, W1 = w.alloc (.cells #[.int .i64 n, .slice sa ss.length sc] 24) := ⟨_, rfl⟩
  obtain ⟨hb1, p0, p1, _⟩ := boxAdv hW1
  have HC := checkA (hA.keep hb1) (by omega)
  have hpos := (chkA_facts h0).2.1.1
  rw [h0] at HC
  rw [verI, if_neg (fun k => k h0), if_pos hlen]
  obtain ⟨N, hN⟩ : ∃ N, ss.length = N := ⟨_, rfl⟩
  have htl := tri_le (n := N) (by omega)
  have hmul := verProd (m := N) (by omega)
  obtain ⟨T, hT⟩ : ∃ T, tri N = T := ⟨_, rfl⟩
  rw [hN] at hlen p1 hpos hW1 HC ⊢
  rw [hT] at hlen htl hmul
  have hq : (((2 * T : Nat) : Int)).tdiv 2 = (T : Int) := by rw [Int.natCast_mul]; exact Int.mul_tdiv_cancel_left _ (by decide)
  have hne : ((ps.length : Int) == (N : Int) - 1 + (T : Int)) = false := by simp; omega
  replace HC := Lib.hid HC
  have hN90 : N ≤ 90 := by omega
  clear hA h0 hT hN
  go_enter Tryz.func29, Tryz.ntmps29
  go_wp2_with fail
  rw [← hW1]
  refine HC.out.mono ?_
  rintro e W2 ⟨rfl, hb2⟩
  have q0 := cell_kept hb2 p0
  have q1 := cell_kept hb2 p1
  have hb02 := bt hb1 hb2 hb1.size
  replace hW1 := Lib.hid hW1
  go_wp2_with fail
  go_ret
  exact ⟨rfl, hb02⟩
/-- Verify, of any adversary that is small. -/
theorem verifyCall {w : World} {v pv : Value} {n : Int} {ss ps : List (List (List Int))} (hA : AdvV w v n ss) (hl : ss.length ≤ 90) (hm : movesN ss ≤ 90) (hP : KSS 7 w pv ps) :
    Calls Tryz.prog 29 #[v, pv] w fun e w' => e = .returned (.int .i64 (verI n ss ps)) ∧ Below w.heap.size w w' := by
  by_cases h0 : chkA n ss = 0
  · by_cases hlen : ps.length = ss.length - 1 + tri ss.length
    · refine verifyA hA hl hm hP h0 (fun s hs m hmm => ?_) hlen
      have hO := clsOK_of hA.len8 h0 hl hm
      exact ((hO.2.2.2 s hs).2 m hmm).2.2
    · exact verifyShape hA hl hm hP h0 hlen
  · exact verifyErr hA (by omega) hP h0
end Go.Proofs.YtfihpofdoffclaaGreatDoor

/- canonical.Prove. -/
namespace Go.Proofs.YtfihpofdoffclaaGreatDoor
open Go.RowKit Go.ChangeMaps Go.MapKept

theorem JP.init {W : World} {B gw n : Nat} (h : W.ownsRow B 45 1 (.slice (some ⟨gw, 0, none⟩) n n) n (List.replicate n (.slice none 0 0))) (h0 : 0 < n) :
    ∃ cs, W.heap[gw]? = some (.cells cs 45) ∧ cs.size = n ∧ ∀ i, i < n → cs[i]? = some (.slice none 0 0) := by
  have hc := fun i (hi : i < n) => World.ownsRow.cellAt h i (by simpa using hi)
  rcases h.2 with ⟨_, h2⟩ | ⟨g, cap, cur, k1, _, k3, _, _, k6, _⟩
  · exact absurd h0 (by first | omega | (cases h2))
  · injection k1 with e1 e2 e3
    injection e1 with e1
    injection e1 with e1
    subst e1 e3
    refine ⟨cur, k3, by simpa using k6, fun i hi => ?_⟩
    have := hc i hi
    rw [cell_of_row _ _ i _ _ _ k3] at this
    rw [this, List.getElem?_replicate, if_pos hi]
theorem elemRsO : ElemOK Tryz.prog 56 45 (.slice none 0 0) 24 := ⟨by kernel_rfl, by kernel_rfl, rfl⟩
theorem OwX.kss7 {E : TypeId} {w : World} {B n : Nat} {v : Value} {xs : List (List (List Int))} (h : OwX E 1 EWd w B v n xs) (hn : n ≤ 5864062014805) (hl : ∀ x ∈ xs, x.length ≤ 2199023255552) : KSS 7 w v xs := by
  obtain ⟨vs, h1, h2, h3, h4⟩ := h
  have hvl : vs.length = n := by have := h1.1; simpa using this
  have key : ∀ g cap, v = .slice (some ⟨g, 0, none⟩) n cap → CKK 7 w g 0 xs := fun g cap hv j hj => by
    subst hv
    have hc := fun j (hj : j < vs.length) => World.ownsRow.cellAt h1 j (by omega)
    have hjn : j < n := by omega
    have hx : xs[j]? = some (xs.getD j []) := by rw [getD_eq hj]; exact List.getElem?_eq_some_iff.2 ⟨hj, rfl⟩
    obtain ⟨u, hu, ho⟩ := h4 j _ hx
    rw [Nat.mul_one] at hu
    have hvj : vs[j]? = some u := by
      have h5 : (vs.drop j).take 1 = [u] := hu
      rw [List.drop_eq_getElem_cons (by omega), List.take_succ_cons, List.take_zero] at h5
      rw [List.getElem?_eq_getElem (by omega)]
      exact congrArg some (List.cons.inj h5).1
    exact ⟨u, by rw [Nat.zero_add, hc j (by omega)]; exact hvj, ho.ks (hl _ (by rw [getD_eq hj]; exact List.getElem_mem hj))⟩
  rcases h1.2 with ⟨h5, h6⟩ | ⟨g, cap, cur, k1, _⟩
  · subst h5 h6
    obtain rfl := List.length_eq_zero_iff.1 h2
    exact ⟨none, 0, 0, 0, rfl, by simp, by intro j hj; simp at hj, by simp⟩
  · subst k1
    exact ⟨some ⟨g, 0, none⟩, cap, g, 0, by rw [h2], fun _ => rfl, key g cap rfl, by omega⟩

end Go.Proofs.YtfihpofdoffclaaGreatDoor

/- canonical.Prove: no error of the adversary. -/
namespace Go.Proofs.YtfihpofdoffclaaGreatDoor
open Go.RowKit Go.ChangeMaps Go.MapKept

/-- What Prove hands back. -/
def PrvOut (w : World) (ss : List (List (List Int))) (e : Ending) (w' : World) : Prop :=
  ∃ u, e = .returned (.tuple #[u, .int .i64 (if minB ss then 0 else 3)]) ∧ OwX 45 1 EWd w' w.heap.size u (if minB ss then prvL ss else []).length (if minB ss then prvL ss else []) ∧ Below w.heap.size w w'
theorem PrvOut.none {w w' : World} {ss : List (List (List Int))} (h : minB ss = false) (hb : Below w.heap.size w w') : PrvOut w ss (.returned (.tuple #[.slice none 0 0, .int .i64 3])) w' := by
  refine ⟨_, by rw [h]; rfl, ?_, hb⟩
  rw [h]; exact OwX.nil _ _
theorem prRow_step (ss : List (List (List Int))) {i k N : Nat} (h : k < N) : prRow ss i k (N - k) = (dist ss i k).getD [] :: prRow ss i (k + 1) (N - (k + 1)) := by
  rw [show N - k = (N - (k + 1)) + 1 by omega, prRow]
theorem prAll_step (ss : List (List (List Int))) {i N : Nat} (h : i < N) : prAll ss i (N - i) = prRow ss i (i + 1) (N - (i + 1)) ++ prAll ss (i + 1) (N - (i + 1)) := by
  rw [show N - i = (N - (i + 1)) + 1 by omega, prAll]
set_option maxRecDepth 100000 in
set_option maxHeartbeats 6400000 in
theorem proveA {w : World} {v : Value} {n : Int} {ss : List (List (List Int))} (hA : AdvV w v n ss) (hO : ClsOK ss) (h0 : chkA n ss = 0) (hl40 : ss.length ≤ 40) :
    Calls Tryz.prog 28 #[v] w (PrvOut w ss) := by
  have hAsc := ascL_of h0
  obtain ⟨hord, hordl, hordb⟩ := ordI_eq hO
  have hpart := clsGo_part hO
  obtain ⟨hl90, hmv90, hl0, hst⟩ := hO
  have hO : ClsOK ss := ⟨hl90, hmv90, hl0, hst⟩
  have hto : ∀ s ∈ ss, ∀ m ∈ s, m.length = 8 ∧ 0 ≤ m.getD 7 0 ∧ m.getD 7 0 < (ss.length : Int) := fun s hs m hm => ((hst s hs).2 m hm).2
  have HD := Lib.hid (fun W (hb : Below w.heap.size w W) i k (hi : i < ss.length) (hk : k < ss.length) => distinguishA (hA.keep hb) hO hAsc hi hk)
  have hpl : (part ss).length = ss.length := stL_len ss ss.length
  obtain ⟨sv, rfl, hK⟩ := hA
  obtain ⟨sa, sc, hsv⟩ := hK.shape
  subst hsv
  obtain ⟨W1, hW1⟩ : ∃ W1, W1 = w.alloc (.cells #[.int .i64 n, .slice sa ss.length sc] 24) := ⟨_, rfl⟩
  obtain ⟨hb1, p0, p1, _⟩ := boxAdv hW1
  have hs1 : W1.heap.size = w.heap.size + 1 := by rw [hW1]; simp
  have hK1 := hK.keep hb1
  have HC := checkA (w := W1) (v := .agg #[.int .i64 n, .slice sa ss.length sc]) (n := n) ⟨_, rfl, hK1⟩ (by omega)
  rw [h0] at HC
  have hmin : Hid (minB ss = (decide ((ordI ss).1.length = ss.length) && decide (mxN (part ss) + 1 = ss.length))) := rfl
  have hprv : Hid (prvL ss = (wds ss.length (ordI ss).2).drop 1 ++ prAll ss 0 ss.length) := rfl
  obtain ⟨R, hR⟩ : ∃ R, ordI ss = R := ⟨_, rfl⟩
  rw [hR] at hord hordl hordb hmin hprv
  obtain ⟨L, hL⟩ : ∃ L, part ss = L := ⟨_, rfl⟩
  rw [hL] at hpart hpl hmin
  have HCl := fun W (hb : Below W1.heap.size W1 W) => classesCall (hK1.keep hb) hO hpart
  have HS := fun (W : World) (bw gw : Nat) (hb : Below W1.heap.size W1 W) (hbw : W1.heap.size ≤ bw) (hgw : W1.heap.size ≤ gw) (hJ : JP ss.length bw gw [] (fun k => k = bw ∨ k = gw) W) (hBd : Bd (fun k => k = bw ∨ k = gw) W) =>
    searchB (w := W) (wA := W1) (D0 := fun k => k = bw ∨ k = gw) (kf := id) (J := JP ss.length bw gw) (bw := bw) hK1 hb (fun k hk => by rcases hk with rfl | rfl <;> assumption) ⟨hl0, by omega⟩ (fun i hi => by simp only [id]; omega) hto
      (fun W i _ _ => keyProve W (i : Int)) (JP.stable _ _ _) hBd hJ
      (fun W fs D s y0 y1 y2 y3 y4 y5 y6 y7 hJ hBd hO hGr hs hsm hm hn => by
        have h8 := hto _ (by rw [getD_eq hs]; exact List.getElem_mem hs) _ hm
        obtain ⟨q, rfl⟩ : ∃ q : Nat, y7 = (q : Int) := ⟨y7.toNat, by have := h8.2.1; simp at this; omega⟩
        have hq : q < ss.length := by have := h8.2.2; simp at this; omega
        have hmq : mvTo [y0, y1, y2, y3, y4, y5, y6, (q : Int)] = q := by show ((q : Int)).toNat = q; omega
        rw [hmq, List.map_id] at hn
        exact foundProve hJ hBd (by omega) hs hq hsm hn) hord (by omega)
  replace HS := Lib.hid HS
  replace HCl := Lib.hid HCl
  replace HC := Lib.hid HC
  obtain ⟨N, hN⟩ : ∃ N, ss.length = N := ⟨_, rfl⟩
  have htl := tri_le (n := N) (by omega)
  have htq : tri N ≤ 780 := by have := tri_eq N; have h2 : N * (N - 1) ≤ 40 * 39 := Nat.mul_le_mul (by omega) (by omega); omega
  have hmul := verProd (m := N) (by omega)
  obtain ⟨T, hT⟩ : ∃ T, tri N = T := ⟨_, rfl⟩
  rw [hT] at htl htq hmul
  have hq : (((2 * T : Nat) : Int)).tdiv 2 = (T : Int) := by rw [Int.natCast_mul]; exact Int.mul_tdiv_cancel_left _ (by decide)
  rw [hN] at hl0 hl40 hl90 HD hW1 p1 HS HCl HC hordl hordb hpl hmin hprv ⊢
  rw [hpl] at HCl
  have hh := Lib.hid (And.intro hord (And.intro hordb hpl))
  replace hN := Lib.hid hN
  replace hT := Lib.hid hT
  replace hR := Lib.hid hR
  replace hL := Lib.hid hL
  have hN0 : ¬ N = 0 := by omega
  clear hK hK1 hO hto hst hAsc hord hordb hpart h0
  go_enter Tryz.func28, Tryz.ntmps28
  go_wp2_with fail
  rw [← hW1]
  replace hW1 := Lib.hid hW1
  refine HC.out.mono ?_
  rintro e W2 ⟨rfl, hb2⟩
  have q0 := cell_kept hb2 p0
  have q1 := cell_kept hb2 p1
  have hs2 := hb2.size
  go_wp2_with (at_make; refine wpMake elemRsO (by decide) rfl _ _ rfl N rfl rfl (by omega) (Nat.le_refl W2.heap.size) ?_; intro W3 ho hgr hb3; have r1 := cell_kept (btt hb3 ((Below.refl W3.heap.size W3).alloc (Nat.le_refl _) (.cells #[.slice (some ⟨W2.heap.size, 0, none⟩) N N] 56))) q1)
  obtain ⟨W4, hW4⟩ : ∃ W4, W4 = W3.alloc (.cells #[.slice (some ⟨W2.heap.size, 0, none⟩) N N] 56) := ⟨_, rfl⟩
  rw [← hW4]
  have hb34 : Below W3.heap.size W3 W4 := by rw [hW4]; exact (Below.refl _ _).alloc (Nat.le_refl _) _
  have hs4 : W4.heap.size = W3.heap.size + 1 := by rw [hW4]; simp
  have hbx4 : W4.heap[W3.heap.size]? = some (.cells #[.slice (some ⟨W2.heap.size, 0, none⟩) N N] 56) := by rw [hW4]; exact heap_alloc_new _ _
  obtain ⟨cs0, c1, c2, c3⟩ := JP.init ho hl0
  have hg3 := (Array.getElem?_eq_some_iff.1 c1).1
  have hb13 : Below W1.heap.size W1 W3 := bt hb2 hb3 hb2.size
  have hb14 : Below W1.heap.size W1 W4 := bt hb13 hb34 hb13.size
  have hw0 : ∀ i, i < N → (wds N []).getD i [] = [] := fun i hi => by simp [wds, hi]
  have hJ4 : JP N W3.heap.size W2.heap.size [] (fun k => k = W3.heap.size ∨ k = W2.heap.size) W4 :=
    ⟨.inl rfl, .inr rfl, by omega, hbx4, ⟨cs0, (hb34.block _ hg3).trans c1, c2, fun i hi => ⟨_, c3 i hi, by rw [hw0 i hi]; exact OwX.nil _ _, fun k hk => by cases hk⟩⟩, by simp, by simp⟩
  have HS4 := HS.out W4 W3.heap.size W2.heap.size hb14 (by omega) (by omega) hJ4 (fun k hk => by rcases hk with rfl | rfl <;> omega)
  have x1 := cell_kept hb14 p1
  replace hW4 := Lib.hid hW4
  clear hJ4 c1 c3 ho hgr hbx4 hw0 HS r1
  refine HS4.mono ?_
  rintro e W5 ⟨o, D5, rfl, hOI, hJ5, hBd5, hO5, hGr5, hoD⟩
  have hb15 : Below W1.heap.size W1 W5 := hb14.trans (hO5.below hb14.size (fun k hk => by rcases hk with rfl | rfl <;> omega))
  have y1 := cell_kept hb15 p1
  obtain ⟨oa, oc, hov⟩ := hOI.shape
  subst hov
  go_wp2_with fail
  refine (HCl.out W5 hb15).mono ?_
  rintro e W6 ⟨lv, rfl, hLI, hb6⟩
  have hb16 : Below W1.heap.size W1 W6 := bt hb15 hb6 hb15.size
  have hbw6 : Below w.heap.size w W6 := bt hb1 hb16 hb1.size
  have z0 := cell_kept hb16 p0
  have z1 := cell_kept hb16 p1
  obtain ⟨la, lc, hlv⟩ := hLI.shape
  subst hlv
  obtain ⟨RL, hRL⟩ : ∃ RL, R.1.length = RL := ⟨_, rfl⟩
  rw [hRL] at hmin hordl
  rw [hRL]
  replace hRL := Lib.hid hRL
  clear HS4 HCl HC hOI hO5 hGr5 hoD
  by_cases hlen : RL = N
  · have HM := maxCall (w := W6) (l := L) (hLI.ints (by omega)) (by rw [hh.out.2.2]; exact hl0)
    obtain ⟨M, hM⟩ : ∃ M, mxN L = M := ⟨_, rfl⟩
    rw [hM] at HM hmin
    replace HM := Lib.hid HM
    have hle : ((RL : Int) != (N : Int)) = false := by simp [hlen]
    by_cases hMN : M + 1 = N
    · have hmB : minB ss = true := by rw [hmin.out]; simp [hlen, hMN]
      have hme : ((M : Int) != (N : Int) - 1) = false := by simp; omega
      have hdc : decide ((1024 : Int) < (N : Int) - 1 + (T : Int)) = false := decide_eq_false (by omega)
      obtain ⟨hDb, hDg, hbg, hbox, ⟨cs, hrow, hcn, hel⟩, _⟩ := hJ5
      have hgl5 := (Array.getElem?_eq_some_iff.1 hrow).1
      have hbl5 := (Array.getElem?_eq_some_iff.1 hbox).1
      have hrow6 := (hb6.block _ hgl5).trans hrow
      have hbox6 := cell_of_one ((hb6.block _ hbl5).trans hbox)
      have hel6 : ∀ i, i < N → ∃ u, cs[i]? = some u ∧ OwX 79 7 EI W6 0 u ((wds N R.2).getD i []).length ((wds N R.2).getD i []) := fun i hi => let ⟨u, k1, k2, _⟩ := hel i hi; ⟨u, k1, OwX.keep (EI.stab _) k2 hb6⟩
      obtain ⟨ad, had⟩ : ∃ ad, ad = if N = 1 then (⟨W2.heap.size, 0, none⟩ : Addr) else ⟨W2.heap.size, 1, none⟩ := ⟨_, rfl⟩
      have hif : (if N = 1 then some (⟨W2.heap.size, 0, none⟩ : Addr) else some ⟨W2.heap.size, 1, none⟩) = some ad := by rw [had]; split <;> rfl
      have hone : ∀ u ∈ cs.toList.drop 1, u.oneCell' = true := fun u hu => by
        obtain ⟨j, hj, rfl⟩ := List.mem_iff_getElem.1 (List.mem_of_mem_drop hu)
        have hj' : j < N := by rw [← hcn]; simpa using hj
        obtain ⟨u, k1, k2⟩ := hel6 j hj'
        have : cs.toList[j] = u := by
          have h1 : cs.toList[j]? = some u := by rw [Array.getElem?_toList]; exact k1
          rw [List.getElem?_eq_getElem hj] at h1
          exact Option.some.inj h1
        rw [this]; exact k2.oneCell
      have hnl : (cs.toList.drop 1).length = (N - 1) * 1 := by rw [List.length_drop, Array.length_toList, hcn, Nat.mul_one]
      have HCn := cloneRs (w := W6) ad (N - 1) (N - 1) (cs.toList.drop 1) hnl (by omega) (fun j u hj => by
        have hjl := (List.getElem?_eq_some_iff.1 hj).1
        rw [hnl] at hjl
        rw [List.getElem?_drop, Array.getElem?_toList] at hj
        rw [had, if_neg (by omega), Addr.add_lit, cell_of_row _ _ _ _ _ _ hrow6]
        exact hj) hone
      have hEl : Hid (∀ j x, ((wds N R.2).drop 1)[j]? = some x → EWd W6 (((cs.toList.drop 1).drop (j * 1)).take 1) x) := fun j x hx => by
        rw [List.getElem?_drop] at hx
        have hjl := (List.getElem?_eq_some_iff.1 hx).1
        rw [wds_len] at hjl
        obtain ⟨u, k1, k2⟩ := hel6 (1 + j) hjl
        have hxe : (wds N R.2).getD (1 + j) [] = x := by rw [List.getD_eq_getElem?_getD, hx]; rfl
        rw [hxe] at k2
        refine ⟨u, ?_, k2⟩
        rw [Nat.mul_one, List.drop_drop, List.drop_eq_getElem_cons (by simpa [hcn] using hjl), List.take_succ_cons, List.take_zero]
        have h1 : cs.toList[1 + j]? = some u := by rw [Array.getElem?_toList]; exact k1
        rw [List.getElem?_eq_getElem (by simpa [hcn] using hjl)] at h1
        rw [Option.some.inj h1]
      have hP0 : Hid ((wds N R.2).drop 1 ++ prAll ss 0 (N - 0) = prvL ss) := hprv.out.symm
      have hPl : Hid ((prvL ss).length ≤ 1000) := by
        show _ ≤ _
        rw [hprv.out, List.length_append, List.length_drop, wds_len, prAll_len, hT.out]; omega
      have h11 : (1 : Int) ≤ (N : Int) := by omega
      have h1n : 1 ≤ N := hl0
      have hNi : ((N - 1 : Nat) : Int) = (N : Int) - 1 := by omega
      replace HCn := Lib.hid HCn
      replace had := Lib.hid had
      have hwl0 : ((wds N R.2).drop 1).length = N - 1 := by rw [List.length_drop, wds_len]
      replace hwl0 := Lib.hid hwl0
      replace hone := Lib.hid hone
      have hnlh := Lib.hid hnl
      clear hel hel6 hrow hrow6 hbox hnl hM hcn hLI
      replace hMN := Lib.hid hMN
      rw [hlen]
      go_wp2_with fail
      refine HM.out.mono ?_
      rintro e w' ⟨rfl, hw'⟩
      replace hw' := hw'.symm
      subst hw'
      go_wp2_with fail
      refine HCn.out.mono ?_
      rintro e W7 ⟨ov, rfl, hown, hb7⟩
      have hO7 : OwX 45 1 EWd W7 W6.heap.size ov ((wds N R.2).drop 1).length ((wds N R.2).drop 1) := by
        rw [hwl0.out]
        exact ⟨_, hown, hwl0.out, hone.out, fun j x hx => EWd.stab (E := 24) (by decide) _ _ _ _ (hEl.out j x hx) (KeepX.below hb7)⟩
      have hbw7 : Below w.heap.size w W7 := bt hbw6 hb7 hbw6.size
      go_wp2_with fail
      go_loopw [9, 57] (fun ov iv wr => ∃ (i : Nat) (acc : List (List (List Int))), iv = .int .i64 i ∧ i ≤ N ∧ OwX 45 1 EWd wr W6.heap.size ov acc.length acc ∧ Hid (acc ++ prAll ss i (N - i) = prvL ss) ∧ Below W6.heap.size W6 wr) (fun _ iv _ => N - (intOf iv).toNat)
      case atStart => exact ⟨0, _, rfl, by omega, hO7, hP0, hb7⟩
      case round =>
        clear hO7 hP0 hb7 hbw7 hown
        obtain ⟨i, acc, rfl, hi, hrw, hacc, hbr⟩ := hrel
        by_cases hlt : i < N
        · have hix : (i : Int) < (N : Int) := by omega
          have hacc0 : Hid (acc ++ (prRow ss i (i + 1) (N - (i + 1)) ++ prAll ss (i + 1) (N - (i + 1))) = prvL ss) := by
            show _ = _
            rw [← hacc.out, prAll_step ss hlt]
          obtain ⟨S, hS⟩ : ∃ S, prAll ss (i + 1) (N - (i + 1)) = S := ⟨_, rfl⟩
          rw [hS] at hacc0
          replace hS := Lib.hid hS
          clear hacc
          obtain ⟨wo, hwo⟩ : ∃ wo, wo = wr := ⟨_, rfl⟩
          subst hwo
          go_wp2_with fail
          go_loopw [9, 11] (fun ov kv wr => ∃ (k : Nat) (acc : List (List (List Int))), kv = .int .i64 k ∧ i + 1 ≤ k ∧ k ≤ N ∧ OwX 45 1 EWd wr W6.heap.size ov acc.length acc ∧ Hid (acc ++ (prRow ss i k (N - k) ++ S) = prvL ss) ∧ Below W6.heap.size W6 wr) (fun _ kv _ => N - (intOf kv).toNat)
          case atStart => exact ⟨i + 1, acc, by first | rfl | go_num, Nat.le_refl _, by omega, hrw, hacc0, hbr⟩
          case round =>
            clear hrw hacc0 hbr
            obtain ⟨k, acc, rfl, hik, hk, hrw, hacc, hbr⟩ := hrel
            by_cases hltk : k < N
            · have hkx : (k : Int) < (N : Int) := by omega
              have hbwr : Below w.heap.size w wr := bt hbw6 hbr hbw6.size
              have HDk := Lib.hid (HD.out wr hbwr i k hlt hltk)
              obtain ⟨dv, hdv⟩ : ∃ dv, dist ss i k = dv := ⟨_, rfl⟩
              have hacc2 : Hid (acc ++ [dv.getD []] ++ (prRow ss i (k + 1) (N - (k + 1)) ++ S) = prvL ss) := by
                show _ = _
                rw [← hacc.out, prRow_step ss hltk, hdv, List.append_assoc]; rfl
              have hal : acc.length ≤ 1000000000000 := by
                have h1 := hPl.out
                rw [← hacc.out, List.length_append] at h1
                omega
              rw [hdv] at HDk
              have a0 := cell_kept hbr z0
              have a1 := cell_kept hbr z1
              clear hdv hacc
              go_wp2_with fail
              refine HDk.out.mono ?_
              rintro e W8 ⟨u, rfl, hu, hb8⟩
              have hrw8 := OwX.keep (EWd.stab (by decide)) hrw hb8
              have hEl8 : EWd W8 [u] (dv.getD []) := ⟨u, rfl, hu.own⟩
              obtain ⟨ua, uc, hus⟩ := hu.shape
              subst hus
              obtain ⟨va, vc, hvs⟩ := hrw8.shape
              subst hvs
              have hbr8 : Below W6.heap.size W6 W8 := bt hbr hb8 hbr.size
              have hc1 : ∀ u ∈ (#[.slice ua (dv.getD []).length uc] : Array Value).toList, u.oneCell' = true := fun u hu => by
                rw [List.mem_singleton.1 hu]; rfl
              clear hrw hu
              go_wp2_with (at_builtin; refine wpAppX elemRs (by decide) (by decide) (EWd.stab (by decide)) rfl _ _ rfl rfl hrw8 rfl rfl rfl hc1 hEl8 hal hbr8.size ?_)
              intro v9 w9 hrw9 hgr9 hbl9 hx9
              go_wp2_with fail
              go_roundw
              case rel => exact ⟨k + 1, acc ++ [dv.getD []], by go_num, by omega, hltk, by rw [List.length_append]; exact hrw9, hacc2, hbr8.trans hbl9⟩
              case measure => simp [intOf]; omega
            · obtain rfl : k = N := by omega
              have hacc2 : Hid (acc ++ prAll ss (i + 1) (k - (i + 1)) = prvL ss) := by
                show _ = _
                rw [← hacc.out, Nat.sub_self, prRow, hS.out, List.nil_append]
              clear hacc
              go_wp2_with fail
              go_roundw
              case rel => exact ⟨i + 1, acc, by go_num, hlt, hrw, hacc2, hbr⟩
              case measure => simp [intOf]; omega
        · obtain rfl : i = N := by omega
          have hfin : acc = prvL ss := by rw [← hacc.out, Nat.sub_self, prAll, List.append_nil]
          subst hfin
          have hbwr : Below w.heap.size w wr := bt hbw6 hbr hbw6.size
          have hbase := hrw.base (B' := w.heap.size) hbw6.size
          clear hacc hrw
          go_wp2_with fail
          go_ret2
          exact ⟨_, by rw [hmB]; rfl, by rw [hmB]; exact hbase, hbwr⟩
    · have hmB : minB ss = false := by rw [hmin.out]; simp [hMN]
      have hme : ((M : Int) != (N : Int) - 1) = true := by simp; omega
      replace hMN := Lib.hid hMN
      clear hJ5 hLI hM
      rw [hlen]
      go_wp2_with fail
      refine HM.out.mono ?_
      rintro e w' ⟨rfl, hw'⟩
      replace hw' := hw'.symm
      subst hw'
      go_wp2_with fail
      go_ret2
      exact PrvOut.none hmB hbw6
  · have hmB : minB ss = false := by rw [hmin.out]; simp [hlen]
    have hle : ((RL : Int) != (N : Int)) = true := by simp; omega
    replace hlen := Lib.hid hlen
    clear hJ5 hLI
    go_wp2_with fail
    go_ret2
    exact PrvOut.none hmB hbw6
end Go.Proofs.YtfihpofdoffclaaGreatDoor

/- The chapter's examples. -/
namespace Go.Proofs.YtfihpofdoffclaaGreatDoor
open Go.RowKit

def rS : List Int := [2, 1, 2, 0, 0, 0, 0]
def rC : List Int := [2, 3, 3, 0, 0, 0, 0]
def exA : List (List (List Int)) := [[rS ++ [2], rC ++ [1]], [rS ++ [1], rC ++ [2]], [rC ++ [1]]]
def exB : List (List (List Int)) := [[rS ++ [1], rC ++ [2]], [rC ++ [2]], [rS ++ [2], rC ++ [1]]]
def vS : Value := .agg #[.int .i64 2, .int .i64 1, .int .i64 2, .int .i64 0, .int .i64 0, .int .i64 0, .int .i64 0]
def vC : Value := .agg #[.int .i64 2, .int .i64 3, .int .i64 3, .int .i64 0, .int .i64 0, .int .i64 0, .int .i64 0]
/-- A row in a block of its own. -/
theorem KSC.row {k : Nat} {w : World} {b : Nat} {cs : Array Value} {t : TypeId} {xs : List (List Int)} (h : w.heap[b]? = some (.cells cs t)) (hl : ∀ x ∈ xs, x.length = k) (hc : cs.toList = xs.flatten.map (Value.int .i64)) (hn : xs.length ≤ 2199023255552) :
    KSC k w (.slice (some ⟨b, 0, none⟩) xs.length xs.length) xs := by
  refine ⟨_, _, b, 0, rfl, fun _ => rfl, fun j hj => ?_, hn, Nat.le_refl _⟩
  have hx : (xs.getD j []).length = k := hl _ (by rw [getD_eq hj]; exact List.getElem_mem hj)
  refine ⟨hx, fun i hi => ?_⟩
  have hi' : i < k := by omega
  have hf := flat_get hl (j := j) (x := xs.getD j []) (by rw [getD_eq hj]; exact List.getElem?_eq_some_iff.2 ⟨hj, rfl⟩)
  rw [cell_of_row _ _ _ _ _ _ h, ← Array.getElem?_toList, hc, List.getElem?_map, Nat.zero_add]
  have h2 : (xs.flatten)[j * k + i]? = some ((xs.getD j []).getD i 0) := by
    have h3 : ((xs.flatten.drop (j * k)).take k)[i]? = some ((xs.getD j []).getD i 0) := by
      rw [hf, List.getElem?_eq_getElem hi, getD_eq hi]
    rw [List.getElem?_take, if_pos hi', List.getElem?_drop] at h3
    exact h3
  rw [h2]; rfl
theorem set_same {w : World} {b o : Nat} {v : Value} (h : w.cell? ⟨b, o, none⟩ = some v) : w.setCell ⟨b, o, none⟩ v = w := by
  unfold World.cell? at h
  unfold World.setCell
  simp only at h ⊢
  split at h
  · rename_i c e f hb
    simp only [Option.isSome_none, Bool.false_eq_true, if_false] at h ⊢
    have h1 : c.setIfInBounds o v = c := by
      apply Array.ext_getElem?
      intro i
      rw [Array.getElem?_setIfInBounds]
      split
      · rename_i hi; subst hi
        split
        · exact h.symm
        · rename_i hn; rw [Array.getElem?_eq_none (by omega)] at h; cases h
      · rfl
    have h2 : ∀ M, M = w.heap → ({ w with heap := M } : World) = w := by rintro M rfl; rfl
    refine h2 _ ?_
    apply Array.ext_getElem?
    intro i
    rw [Array.getElem?_modify]
    split
    · rename_i hi; subst hi
      rw [hb]; simp only [Option.map_some, h1]
    · rfl
  · cases h
theorem ha_new {w : World} {o : Obj} {k : Nat} (h : k = w.heap.size) : (w.alloc o).heap[k]? = some o := by rw [h]; exact heap_alloc_new w o
theorem ha_old {w : World} {o o' : Obj} {k : Nat} (h : k < w.heap.size) (hk : w.heap[k]? = some o') : (w.alloc o).heap[k]? = some o' := (Below.heap_alloc w o k h).trans hk
set_option maxRecDepth 100000 in
set_option maxHeartbeats 3200000 in
theorem exampleCall {w : World} : Calls Tryz.prog 44 #[] w fun e w' => ∃ a b, e = .returned (.tuple #[a, b, vS, vC]) ∧ AdvC w' a 2 exA ∧ AdvC w' b 2 exB ∧ Below w.heap.size w w' := by
  have hb0 := Below.refl w.heap.size w
  go_enter Tryz.func44, Tryz.ntmps44
  go_upto_region 5 with fail
  generalize hW : World.alloc _ _ = W
  have h0 : W.heap[w.heap.size]? = some (.cells #[.int .i64 2, .slice (some ⟨w.heap.size + 1 + 1 + 1 + 1 + 1 + 1 + 1, 0, none⟩) 3 3] 24) := by rw [← hW]; repeat (first | (refine ha_new ?_; first | rfl | (simp only [World.size_alloc]; done)) | (refine ha_old ?_ ?_; · (simp only [World.size_alloc] <;> omega)))
  have h1 : W.heap[w.heap.size + 1]? = some (.cells #[.int .i64 2, .slice (some ⟨w.heap.size + 1 + 1 + 1 + 1 + 1 + 1 + 1 + 1 + 1 + 1 + 1, 0, none⟩) 3 3] 24) := by rw [← hW]; repeat (first | (refine ha_new ?_; first | rfl | (simp only [World.size_alloc]; done)) | (refine ha_old ?_ ?_; · (simp only [World.size_alloc] <;> omega)))
  have h2 : W.heap[w.heap.size + 1 + 1]? = some (.cells #[.int .i64 2, .int .i64 1, .int .i64 2, .int .i64 0, .int .i64 0, .int .i64 0, .int .i64 0] 79) := by rw [← hW]; repeat (first | (refine ha_new ?_; first | rfl | (simp only [World.size_alloc]; done)) | (refine ha_old ?_ ?_; · (simp only [World.size_alloc] <;> omega)))
  have h3 : W.heap[w.heap.size + 1 + 1 + 1]? = some (.cells #[.int .i64 2, .int .i64 3, .int .i64 3, .int .i64 0, .int .i64 0, .int .i64 0, .int .i64 0] 79) := by rw [← hW]; repeat (first | (refine ha_new ?_; first | rfl | (simp only [World.size_alloc]; done)) | (refine ha_old ?_ ?_; · (simp only [World.size_alloc] <;> omega)))
  have h4 : W.heap[w.heap.size + 1 + 1 + 1 + 1]? = some (.cells #[.int .i64 2, .int .i64 1, .int .i64 2, .int .i64 0, .int .i64 0, .int .i64 0, .int .i64 0, .int .i64 2, .int .i64 2, .int .i64 3, .int .i64 3, .int .i64 0, .int .i64 0, .int .i64 0, .int .i64 0, .int .i64 1] 84) := by rw [← hW]; repeat (first | (refine ha_new ?_; first | rfl | (simp only [World.size_alloc]; done)) | (refine ha_old ?_ ?_; · (simp only [World.size_alloc] <;> omega)))
  have h5 : W.heap[w.heap.size + 1 + 1 + 1 + 1 + 1]? = some (.cells #[.int .i64 2, .int .i64 1, .int .i64 2, .int .i64 0, .int .i64 0, .int .i64 0, .int .i64 0, .int .i64 1, .int .i64 2, .int .i64 3, .int .i64 3, .int .i64 0, .int .i64 0, .int .i64 0, .int .i64 0, .int .i64 2] 84) := by rw [← hW]; repeat (first | (refine ha_new ?_; first | rfl | (simp only [World.size_alloc]; done)) | (refine ha_old ?_ ?_; · (simp only [World.size_alloc] <;> omega)))
  have h6 : W.heap[w.heap.size + 1 + 1 + 1 + 1 + 1 + 1]? = some (.cells #[.int .i64 2, .int .i64 3, .int .i64 3, .int .i64 0, .int .i64 0, .int .i64 0, .int .i64 0, .int .i64 1] 84) := by rw [← hW]; repeat (first | (refine ha_new ?_; first | rfl | (simp only [World.size_alloc]; done)) | (refine ha_old ?_ ?_; · (simp only [World.size_alloc] <;> omega)))
  have h7 : W.heap[w.heap.size + 1 + 1 + 1 + 1 + 1 + 1 + 1]? = some (.cells #[.slice (some ⟨w.heap.size + 1 + 1 + 1 + 1, 0, none⟩) 2 2, .slice (some ⟨w.heap.size + 1 + 1 + 1 + 1 + 1, 0, none⟩) 2 2, .slice (some ⟨w.heap.size + 1 + 1 + 1 + 1 + 1 + 1, 0, none⟩) 1 1] 82) := by rw [← hW]; repeat (first | (refine ha_new ?_; first | rfl | (simp only [World.size_alloc]; done)) | (refine ha_old ?_ ?_; · (simp only [World.size_alloc] <;> omega)))
  have h8 : W.heap[w.heap.size + 1 + 1 + 1 + 1 + 1 + 1 + 1 + 1]? = some (.cells #[.int .i64 2, .int .i64 1, .int .i64 2, .int .i64 0, .int .i64 0, .int .i64 0, .int .i64 0, .int .i64 1, .int .i64 2, .int .i64 3, .int .i64 3, .int .i64 0, .int .i64 0, .int .i64 0, .int .i64 0, .int .i64 2] 84) := by rw [← hW]; repeat (first | (refine ha_new ?_; first | rfl | (simp only [World.size_alloc]; done)) | (refine ha_old ?_ ?_; · (simp only [World.size_alloc] <;> omega)))
  have h9 : W.heap[w.heap.size + 1 + 1 + 1 + 1 + 1 + 1 + 1 + 1 + 1]? = some (.cells #[.int .i64 2, .int .i64 3, .int .i64 3, .int .i64 0, .int .i64 0, .int .i64 0, .int .i64 0, .int .i64 2] 84) := by rw [← hW]; repeat (first | (refine ha_new ?_; first | rfl | (simp only [World.size_alloc]; done)) | (refine ha_old ?_ ?_; · (simp only [World.size_alloc] <;> omega)))
  have h10 : W.heap[w.heap.size + 1 + 1 + 1 + 1 + 1 + 1 + 1 + 1 + 1 + 1]? = some (.cells #[.int .i64 2, .int .i64 1, .int .i64 2, .int .i64 0, .int .i64 0, .int .i64 0, .int .i64 0, .int .i64 2, .int .i64 2, .int .i64 3, .int .i64 3, .int .i64 0, .int .i64 0, .int .i64 0, .int .i64 0, .int .i64 1] 84) := by rw [← hW]; repeat (first | (refine ha_new ?_; first | rfl | (simp only [World.size_alloc]; done)) | (refine ha_old ?_ ?_; · (simp only [World.size_alloc] <;> omega)))
  have h11 : W.heap[w.heap.size + 1 + 1 + 1 + 1 + 1 + 1 + 1 + 1 + 1 + 1 + 1]? = some (.cells #[.slice (some ⟨w.heap.size + 1 + 1 + 1 + 1 + 1 + 1 + 1 + 1, 0, none⟩) 2 2, .slice (some ⟨w.heap.size + 1 + 1 + 1 + 1 + 1 + 1 + 1 + 1 + 1, 0, none⟩) 1 1, .slice (some ⟨w.heap.size + 1 + 1 + 1 + 1 + 1 + 1 + 1 + 1 + 1 + 1, 0, none⟩) 2 2] 82) := by rw [← hW]; repeat (first | (refine ha_new ?_; first | rfl | (simp only [World.size_alloc]; done)) | (refine ha_old ?_ ?_; · (simp only [World.size_alloc] <;> omega)))
  have hbW : Below w.heap.size w W := by rw [← hW]; repeat (first | exact Below.refl _ _ | (refine Below.alloc ?_ ?_ _; rotate_left; · (first | exact Nat.le_refl _ | (simp only [World.size_alloc] <;> omega))))
  clear hW
  have k4 := KSC.row (k := 8) (xs := exA.getD 0 []) h4 (by decide) rfl (by decide)
  have k5 := KSC.row (k := 8) (xs := exA.getD 1 []) h5 (by decide) rfl (by decide)
  have k6 := KSC.row (k := 8) (xs := exA.getD 2 []) h6 (by decide) rfl (by decide)
  have k8 := KSC.row (k := 8) (xs := exB.getD 0 []) h8 (by decide) rfl (by decide)
  have k9 := KSC.row (k := 8) (xs := exB.getD 1 []) h9 (by decide) rfl (by decide)
  have k10 := KSC.row (k := 8) (xs := exB.getD 2 []) h10 (by decide) rfl (by decide)
  have hA : AdvC W (.agg #[.int .i64 2, .slice (some ⟨w.heap.size + 1 + 1 + 1 + 1 + 1 + 1 + 1, 0, none⟩) 3 3]) 2 exA := by
    refine ⟨_, _, w.heap.size + 1 + 1 + 1 + 1 + 1 + 1 + 1, 0, rfl, fun _ => rfl, fun j hj => ?_, by decide⟩
    rw [Nat.zero_add, cell_of_row _ _ _ _ _ _ h7]
    match j, hj with
    | 0, _ => exact ⟨_, rfl, k4⟩
    | 1, _ => exact ⟨_, rfl, k5⟩
    | 2, _ => exact ⟨_, rfl, k6⟩
    | _ + 3, hj => exact absurd hj (by show ¬ _ < 3; omega)
  have hB : AdvC W (.agg #[.int .i64 2, .slice (some ⟨w.heap.size + 1 + 1 + 1 + 1 + 1 + 1 + 1 + 1 + 1 + 1 + 1, 0, none⟩) 3 3]) 2 exB := by
    refine ⟨_, _, w.heap.size + 1 + 1 + 1 + 1 + 1 + 1 + 1 + 1 + 1 + 1 + 1, 0, rfl, fun _ => rfl, fun j hj => ?_, by decide⟩
    rw [Nat.zero_add, cell_of_row _ _ _ _ _ _ h11]
    match j, hj with
    | 0, _ => exact ⟨_, rfl, k8⟩
    | 1, _ => exact ⟨_, rfl, k9⟩
    | 2, _ => exact ⟨_, rfl, k10⟩
    | _ + 3, hj => exact absurd hj (by show ¬ _ < 3; omega)
  have c00 : W.cell? ⟨w.heap.size, 0, none⟩ = some (.int .i64 2) := by rw [cell_of_row _ _ 0 _ _ _ h0]; rfl
  have s00 : ∀ d, (W.drewN d).setCell ⟨w.heap.size, 0, none⟩ (.int .i64 2) = W.drewN d := fun d => set_same (w := W.drewN d) c00
  have t00 : W.drew.setCell ⟨w.heap.size, 0, none⟩ (.int .i64 2) = W.drew := set_same (w := W.drew) c00
  have c01 : W.cell? ⟨w.heap.size, 1, none⟩ = some (.slice (some ⟨w.heap.size + 1 + 1 + 1 + 1 + 1 + 1 + 1, 0, none⟩) 3 3) := by rw [cell_of_row _ _ 1 _ _ _ h0]; rfl
  have s01 : ∀ d, (W.drewN d).setCell ⟨w.heap.size, 1, none⟩ (.slice (some ⟨w.heap.size + 1 + 1 + 1 + 1 + 1 + 1 + 1, 0, none⟩) 3 3) = W.drewN d := fun d => set_same (w := W.drewN d) c01
  have t01 : W.drew.setCell ⟨w.heap.size, 1, none⟩ (.slice (some ⟨w.heap.size + 1 + 1 + 1 + 1 + 1 + 1 + 1, 0, none⟩) 3 3) = W.drew := set_same (w := W.drew) c01
  have f0 : ∀ j, W.frozen? ⟨w.heap.size, j, none⟩ = false := fun j => row_free h0 j
  have c10 : W.cell? ⟨w.heap.size + 1, 0, none⟩ = some (.int .i64 2) := by rw [cell_of_row _ _ 0 _ _ _ h1]; rfl
  have s10 : ∀ d, (W.drewN d).setCell ⟨w.heap.size + 1, 0, none⟩ (.int .i64 2) = W.drewN d := fun d => set_same (w := W.drewN d) c10
  have t10 : W.drew.setCell ⟨w.heap.size + 1, 0, none⟩ (.int .i64 2) = W.drew := set_same (w := W.drew) c10
  have c11 : W.cell? ⟨w.heap.size + 1, 1, none⟩ = some (.slice (some ⟨w.heap.size + 1 + 1 + 1 + 1 + 1 + 1 + 1 + 1 + 1 + 1 + 1, 0, none⟩) 3 3) := by rw [cell_of_row _ _ 1 _ _ _ h1]; rfl
  have s11 : ∀ d, (W.drewN d).setCell ⟨w.heap.size + 1, 1, none⟩ (.slice (some ⟨w.heap.size + 1 + 1 + 1 + 1 + 1 + 1 + 1 + 1 + 1 + 1 + 1, 0, none⟩) 3 3) = W.drewN d := fun d => set_same (w := W.drewN d) c11
  have t11 : W.drew.setCell ⟨w.heap.size + 1, 1, none⟩ (.slice (some ⟨w.heap.size + 1 + 1 + 1 + 1 + 1 + 1 + 1 + 1 + 1 + 1 + 1, 0, none⟩) 3 3) = W.drew := set_same (w := W.drew) c11
  have f1 : ∀ j, W.frozen? ⟨w.heap.size + 1, j, none⟩ = false := fun j => row_free h1 j
  have c20 : W.cell? ⟨w.heap.size + 1 + 1, 0, none⟩ = some (.int .i64 2) := by rw [cell_of_row _ _ 0 _ _ _ h2]; rfl
  have s20 : ∀ d, (W.drewN d).setCell ⟨w.heap.size + 1 + 1, 0, none⟩ (.int .i64 2) = W.drewN d := fun d => set_same (w := W.drewN d) c20
  have t20 : W.drew.setCell ⟨w.heap.size + 1 + 1, 0, none⟩ (.int .i64 2) = W.drew := set_same (w := W.drew) c20
  have c21 : W.cell? ⟨w.heap.size + 1 + 1, 1, none⟩ = some (.int .i64 1) := by rw [cell_of_row _ _ 1 _ _ _ h2]; rfl
  have s21 : ∀ d, (W.drewN d).setCell ⟨w.heap.size + 1 + 1, 1, none⟩ (.int .i64 1) = W.drewN d := fun d => set_same (w := W.drewN d) c21
  have t21 : W.drew.setCell ⟨w.heap.size + 1 + 1, 1, none⟩ (.int .i64 1) = W.drew := set_same (w := W.drew) c21
  have c22 : W.cell? ⟨w.heap.size + 1 + 1, 2, none⟩ = some (.int .i64 2) := by rw [cell_of_row _ _ 2 _ _ _ h2]; rfl
  have s22 : ∀ d, (W.drewN d).setCell ⟨w.heap.size + 1 + 1, 2, none⟩ (.int .i64 2) = W.drewN d := fun d => set_same (w := W.drewN d) c22
  have t22 : W.drew.setCell ⟨w.heap.size + 1 + 1, 2, none⟩ (.int .i64 2) = W.drew := set_same (w := W.drew) c22
  have c23 : W.cell? ⟨w.heap.size + 1 + 1, 3, none⟩ = some (.int .i64 0) := by rw [cell_of_row _ _ 3 _ _ _ h2]; rfl
  have s23 : ∀ d, (W.drewN d).setCell ⟨w.heap.size + 1 + 1, 3, none⟩ (.int .i64 0) = W.drewN d := fun d => set_same (w := W.drewN d) c23
  have t23 : W.drew.setCell ⟨w.heap.size + 1 + 1, 3, none⟩ (.int .i64 0) = W.drew := set_same (w := W.drew) c23
  have c24 : W.cell? ⟨w.heap.size + 1 + 1, 4, none⟩ = some (.int .i64 0) := by rw [cell_of_row _ _ 4 _ _ _ h2]; rfl
  have s24 : ∀ d, (W.drewN d).setCell ⟨w.heap.size + 1 + 1, 4, none⟩ (.int .i64 0) = W.drewN d := fun d => set_same (w := W.drewN d) c24
  have t24 : W.drew.setCell ⟨w.heap.size + 1 + 1, 4, none⟩ (.int .i64 0) = W.drew := set_same (w := W.drew) c24
  have c25 : W.cell? ⟨w.heap.size + 1 + 1, 5, none⟩ = some (.int .i64 0) := by rw [cell_of_row _ _ 5 _ _ _ h2]; rfl
  have s25 : ∀ d, (W.drewN d).setCell ⟨w.heap.size + 1 + 1, 5, none⟩ (.int .i64 0) = W.drewN d := fun d => set_same (w := W.drewN d) c25
  have t25 : W.drew.setCell ⟨w.heap.size + 1 + 1, 5, none⟩ (.int .i64 0) = W.drew := set_same (w := W.drew) c25
  have c26 : W.cell? ⟨w.heap.size + 1 + 1, 6, none⟩ = some (.int .i64 0) := by rw [cell_of_row _ _ 6 _ _ _ h2]; rfl
  have s26 : ∀ d, (W.drewN d).setCell ⟨w.heap.size + 1 + 1, 6, none⟩ (.int .i64 0) = W.drewN d := fun d => set_same (w := W.drewN d) c26
  have t26 : W.drew.setCell ⟨w.heap.size + 1 + 1, 6, none⟩ (.int .i64 0) = W.drew := set_same (w := W.drew) c26
  have f2 : ∀ j, W.frozen? ⟨w.heap.size + 1 + 1, j, none⟩ = false := fun j => row_free h2 j
  have c30 : W.cell? ⟨w.heap.size + 1 + 1 + 1, 0, none⟩ = some (.int .i64 2) := by rw [cell_of_row _ _ 0 _ _ _ h3]; rfl
  have s30 : ∀ d, (W.drewN d).setCell ⟨w.heap.size + 1 + 1 + 1, 0, none⟩ (.int .i64 2) = W.drewN d := fun d => set_same (w := W.drewN d) c30
  have t30 : W.drew.setCell ⟨w.heap.size + 1 + 1 + 1, 0, none⟩ (.int .i64 2) = W.drew := set_same (w := W.drew) c30
  have c31 : W.cell? ⟨w.heap.size + 1 + 1 + 1, 1, none⟩ = some (.int .i64 3) := by rw [cell_of_row _ _ 1 _ _ _ h3]; rfl
  have s31 : ∀ d, (W.drewN d).setCell ⟨w.heap.size + 1 + 1 + 1, 1, none⟩ (.int .i64 3) = W.drewN d := fun d => set_same (w := W.drewN d) c31
  have t31 : W.drew.setCell ⟨w.heap.size + 1 + 1 + 1, 1, none⟩ (.int .i64 3) = W.drew := set_same (w := W.drew) c31
  have c32 : W.cell? ⟨w.heap.size + 1 + 1 + 1, 2, none⟩ = some (.int .i64 3) := by rw [cell_of_row _ _ 2 _ _ _ h3]; rfl
  have s32 : ∀ d, (W.drewN d).setCell ⟨w.heap.size + 1 + 1 + 1, 2, none⟩ (.int .i64 3) = W.drewN d := fun d => set_same (w := W.drewN d) c32
  have t32 : W.drew.setCell ⟨w.heap.size + 1 + 1 + 1, 2, none⟩ (.int .i64 3) = W.drew := set_same (w := W.drew) c32
  have c33 : W.cell? ⟨w.heap.size + 1 + 1 + 1, 3, none⟩ = some (.int .i64 0) := by rw [cell_of_row _ _ 3 _ _ _ h3]; rfl
  have s33 : ∀ d, (W.drewN d).setCell ⟨w.heap.size + 1 + 1 + 1, 3, none⟩ (.int .i64 0) = W.drewN d := fun d => set_same (w := W.drewN d) c33
  have t33 : W.drew.setCell ⟨w.heap.size + 1 + 1 + 1, 3, none⟩ (.int .i64 0) = W.drew := set_same (w := W.drew) c33
  have c34 : W.cell? ⟨w.heap.size + 1 + 1 + 1, 4, none⟩ = some (.int .i64 0) := by rw [cell_of_row _ _ 4 _ _ _ h3]; rfl
  have s34 : ∀ d, (W.drewN d).setCell ⟨w.heap.size + 1 + 1 + 1, 4, none⟩ (.int .i64 0) = W.drewN d := fun d => set_same (w := W.drewN d) c34
  have t34 : W.drew.setCell ⟨w.heap.size + 1 + 1 + 1, 4, none⟩ (.int .i64 0) = W.drew := set_same (w := W.drew) c34
  have c35 : W.cell? ⟨w.heap.size + 1 + 1 + 1, 5, none⟩ = some (.int .i64 0) := by rw [cell_of_row _ _ 5 _ _ _ h3]; rfl
  have s35 : ∀ d, (W.drewN d).setCell ⟨w.heap.size + 1 + 1 + 1, 5, none⟩ (.int .i64 0) = W.drewN d := fun d => set_same (w := W.drewN d) c35
  have t35 : W.drew.setCell ⟨w.heap.size + 1 + 1 + 1, 5, none⟩ (.int .i64 0) = W.drew := set_same (w := W.drew) c35
  have c36 : W.cell? ⟨w.heap.size + 1 + 1 + 1, 6, none⟩ = some (.int .i64 0) := by rw [cell_of_row _ _ 6 _ _ _ h3]; rfl
  have s36 : ∀ d, (W.drewN d).setCell ⟨w.heap.size + 1 + 1 + 1, 6, none⟩ (.int .i64 0) = W.drewN d := fun d => set_same (w := W.drewN d) c36
  have t36 : W.drew.setCell ⟨w.heap.size + 1 + 1 + 1, 6, none⟩ (.int .i64 0) = W.drew := set_same (w := W.drew) c36
  have f3 : ∀ j, W.frozen? ⟨w.heap.size + 1 + 1 + 1, j, none⟩ = false := fun j => row_free h3 j
  replace hA := Lib.hid hA
  replace hB := Lib.hid hB
  clear k4 k5 k6 k8 k9 k10 h4 h5 h6 h7 h8 h9 h10 h11 h0 h1 h2 h3
  go_region_held3 (fun w' => w'.cell? ⟨w.heap.size, 0, none⟩ = some (.int .i64 2) ∧ w'.cell? ⟨w.heap.size, 1, none⟩ = some (.slice (some ⟨w.heap.size + 1 + 1 + 1 + 1 + 1 + 1 + 1, 0, none⟩) 3 3) ∧ w'.cell? ⟨w.heap.size + 1, 0, none⟩ = some (.int .i64 2) ∧ w'.cell? ⟨w.heap.size + 1, 1, none⟩ = some (.slice (some ⟨w.heap.size + 1 + 1 + 1 + 1 + 1 + 1 + 1 + 1 + 1 + 1 + 1, 0, none⟩) 3 3) ∧ w'.cell? ⟨w.heap.size + 1 + 1, 0, none⟩ = some (.int .i64 2) ∧ w'.cell? ⟨w.heap.size + 1 + 1, 1, none⟩ = some (.int .i64 1) ∧ w'.cell? ⟨w.heap.size + 1 + 1, 2, none⟩ = some (.int .i64 2) ∧ w'.cell? ⟨w.heap.size + 1 + 1, 3, none⟩ = some (.int .i64 0) ∧ w'.cell? ⟨w.heap.size + 1 + 1, 4, none⟩ = some (.int .i64 0) ∧ w'.cell? ⟨w.heap.size + 1 + 1, 5, none⟩ = some (.int .i64 0) ∧ w'.cell? ⟨w.heap.size + 1 + 1, 6, none⟩ = some (.int .i64 0) ∧ w'.cell? ⟨w.heap.size + 1 + 1 + 1, 0, none⟩ = some (.int .i64 2) ∧ w'.cell? ⟨w.heap.size + 1 + 1 + 1, 1, none⟩ = some (.int .i64 3) ∧ w'.cell? ⟨w.heap.size + 1 + 1 + 1, 2, none⟩ = some (.int .i64 3) ∧ w'.cell? ⟨w.heap.size + 1 + 1 + 1, 3, none⟩ = some (.int .i64 0) ∧ w'.cell? ⟨w.heap.size + 1 + 1 + 1, 4, none⟩ = some (.int .i64 0) ∧ w'.cell? ⟨w.heap.size + 1 + 1 + 1, 5, none⟩ = some (.int .i64 0) ∧ w'.cell? ⟨w.heap.size + 1 + 1 + 1, 6, none⟩ = some (.int .i64 0))
    (go_keep)
    (fail)
  go_wp2
  refine bodyPost_ret (v := .tuple #[.agg #[.int .i64 2, .slice (some ⟨w.heap.size + 1 + 1 + 1 + 1 + 1 + 1 + 1, 0, none⟩) 3 3], .agg #[.int .i64 2, .slice (some ⟨w.heap.size + 1 + 1 + 1 + 1 + 1 + 1 + 1 + 1 + 1 + 1 + 1, 0, none⟩) 3 3], vS, vC]) (by simp [results, Tryz.results44, go_sem, c00, c01, c10, c11, c20, c21, c22, c23, c24, c25, c26, c30, c31, c32, c33, c34, c35, c36, vS, vC]) rfl ?_
  exact ⟨_, _, rfl, hA.out.keep (Below.refl _ W).drew, hB.out.keep (Below.refl _ W).drew, hbW.drew⟩
end Go.Proofs.YtfihpofdoffclaaGreatDoor

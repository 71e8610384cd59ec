/- Texts of this claim, put together: EA H1 EC ED. -/
import Derived.Test.YtiiiegflobihjaaGreatKChainsr
import Derived.Test.YtiiiegflobihjaaGreatKChainsh
import Derived.Test.YtiiiegflobihjaaGreatKChainsd
import Derived.Deep.RegionHeld3
import Derived.Deep.DeepCutAuto

/- The reference: With, Either, joined. -/
namespace Go.Proofs.YtiiiegflobihjaaGreat
open Go.RowKit

def withI (x p : Int) : Int := if hasI x p then x else x + twoI p
def eiK (a b : Int) : Nat → Int
  | 0 => 0
  | p + 1 => if hasI a p || hasI b p then withI (eiK a b p) p else eiK a b p
def eiOk : Bool := (List.range 32).all fun a => (List.range 32).all fun b => (eiK a b 5 == orI a b) && (List.range 6).all fun k => decide (0 ≤ eiK a b k ∧ eiK a b k ≤ 31)
theorem eiOk_true : eiOk = true := by decide +kernel
theorem eiK_facts {a b : Int} (ha : 0 ≤ a ∧ a ≤ 31) (hb : 0 ≤ b ∧ b ≤ 31) : eiK a b 5 = orI a b ∧ ∀ k, k ≤ 5 → 0 ≤ eiK a b k ∧ eiK a b k ≤ 31 := by
  obtain ⟨x, rfl⟩ : ∃ x : Nat, a = (x : Int) := ⟨a.toNat, by omega⟩
  obtain ⟨y, rfl⟩ : ∃ y : Nat, b = (y : Int) := ⟨b.toNat, by omega⟩
  have h := eiOk_true
  unfold eiOk at h
  have h1 := List.all_eq_true.1 (List.all_eq_true.1 h x (List.mem_range.2 (by omega))) y (List.mem_range.2 (by omega))
  rw [Bool.and_eq_true] at h1
  refine ⟨by simpa using h1.1, fun k hk => ?_⟩
  have h2 := List.all_eq_true.1 h1.2 k (List.mem_range.2 (by omega))
  simpa using h2
set_option maxRecDepth 100000 in
theorem refWith (x p : Int) (w : World) (h0 : 0 ≤ x) (hx : x ≤ 1000000) (h1 : 0 ≤ p) (h5 : p ≤ 5) : Calls Tryz.prog 136 #[.int .i64 x, .int .i64 p] w fun e w' => e = .returned (.int .i64 (withI x p)) ∧ w = w' := by
  have H := Lib.hid (powerCall p w h1 h5)
  have HH := Lib.hid (refHas x p w h0 hx h1 h5)
  have hb : 1 ≤ twoI p ∧ twoI p ≤ 32 := by unfold twoI; split; omega; split; omega; split; omega; split; omega; split; omega; omega
  obtain ⟨hb1, hb2⟩ := hb
  have e := Lib.hid (show withI x p = if hasI x p then x else x + twoI p from rfl)
  obtain ⟨t, ht⟩ : ∃ t, twoI p = t := ⟨_, rfl⟩
  rw [ht] at e hb1 hb2 H
  clear ht
  obtain ⟨q, hq⟩ : ∃ q, hasI x p = q := ⟨_, rfl⟩
  rw [hq] at e HH
  clear hq
  cases q
  · have e2 : Hid (withI x p = x + t) := e
    clear e
    go_enter Tryz.func136, Tryz.ntmps136
    go_wp2_with (first | (go_at_call 158; refine H.out.mono ?_; rintro e w' ⟨rfl, rfl⟩) | (go_at_call 135; refine HH.out.mono ?_; rintro e w' ⟨rfl, rfl⟩))
    go_ret
    exact ⟨ret_int e2.out.symm, rfl⟩
  · have e2 : Hid (withI x p = x) := e
    clear e
    go_enter Tryz.func136, Tryz.ntmps136
    go_wp2_with (first | (go_at_call 158; refine H.out.mono ?_; rintro e w' ⟨rfl, rfl⟩) | (go_at_call 135; refine HH.out.mono ?_; rintro e w' ⟨rfl, rfl⟩))
    go_ret
    exact ⟨ret_int e2.out.symm, rfl⟩
set_option maxRecDepth 100000 in
theorem refEither (a b : Int) (w : World) (ha : 0 ≤ a ∧ a ≤ 31) (hb : 0 ≤ b ∧ b ≤ 31) : Calls Tryz.prog 103 #[.int .i64 a, .int .i64 b] w fun e w' => e = .returned (.int .i64 (orI a b)) ∧ Qt w w' := by
  obtain ⟨hfin, hall⟩ := eiK_facts ha hb
  obtain ⟨ha0, ha1⟩ := ha
  obtain ⟨hb0, hb1⟩ := hb
  replace hfin := Lib.hid hfin
  replace hall := Lib.hid hall
  go_enter Tryz.func103, Tryz.ntmps103
  go_wp2_with fail
  go_loopw [5, 6] (fun ov pv wr => ∃ k : Nat, pv = .int .i64 k ∧ k ≤ 5 ∧ ov = .int .i64 (eiK a b k) ∧ Qt w wr) (fun _ pv _ => 5 - (intOf pv).toNat)
  case atStart => exact ⟨0, rfl, by omega, rfl, Qt.refl _⟩
  case round =>
    obtain ⟨k, rfl, hk, rfl, nd, rfl⟩ := hrel
    obtain ⟨he0, he1⟩ := hall.out k hk
    by_cases hlt : k < 5
    · have hki : (k : Int) < 5 := by omega
      have hst := Lib.hid (show eiK a b (k + 1) = if hasI a k || hasI b k then withI (eiK a b k) k else eiK a b k from rfl)
      have HA := Lib.hid (fun W => refHas a (k : Int) W ha0 (by omega) (by omega) (by omega))
      have HB := Lib.hid (fun W => refHas b (k : Int) W hb0 (by omega) (by omega) (by omega))
      obtain ⟨o, ho⟩ : ∃ o, eiK a b k = o := ⟨_, rfl⟩
      rw [ho] at hst he0 he1 ⊢
      have HW := Lib.hid (fun W => refWith o (k : Int) W he0 (by omega) (by omega) (by omega))
      obtain ⟨p, hp⟩ : ∃ p, hasI a (k : Int) = p := ⟨_, rfl⟩
      obtain ⟨q, hq⟩ : ∃ q, hasI b (k : Int) = q := ⟨_, rfl⟩
      rw [hp] at HA hst
      rw [hq] at HB hst
      replace hp := Lib.hid hp
      replace hq := Lib.hid hq
      replace ho := Lib.hid ho
      cases p <;> cases q <;>
      · have hst2 := hst.out
        simp only [Bool.or_true, Bool.or_false, Bool.false_eq_true, if_true, if_false] at hst2
        replace hst2 := Lib.hid hst2
        clear hst
        go_wp2_with (first | (go_at_call 135; first | (with_reducible refine (HA.out _).mono ?_; rintro e w' ⟨rfl, rfl⟩) | (with_reducible refine (HB.out _).mono ?_; rintro e w' ⟨rfl, rfl⟩)) | (go_at_call 136; refine (HW.out _).mono ?_; rintro e w' ⟨rfl, rfl⟩))
        go_roundw
        case rel => exact ⟨k + 1, by go_num, hlt, by rw [hst2.out], by first | exact Qt.refl _ | exact Qt.mk' _ _ | exact Qt.mk2 _ _ _⟩
        case measure => simp [intOf]; omega
    · obtain rfl : k = 5 := by omega
      rw [hfin.out]
      go_wp2
      go_ret
      exact ⟨rfl, by first | exact Qt.refl _ | exact Qt.mk' _ _ | exact Qt.mk2 _ _ _⟩
end Go.Proofs.YtiiiegflobihjaaGreat

/- Equality of lists of ints, of rounds and of words. -/
namespace Go.Proofs.YtiiiegflobihjaaGreat
open Go.RowKit

set_option maxRecDepth 100000 in
set_option maxHeartbeats 1600000 in
theorem sameIntsR {w : World} {u v : Value} {xs ys : List Int} (hx : Ints w u xs) (hy : Ints w v ys) :
    Calls Tryz.prog 104 #[u, v] w fun e w' => e = .returned (.bool (decide (xs = ys))) ∧ Qt w w' := by
  obtain ⟨xa, xc, xb, xo, rfl, hxa, hxc, _⟩ := hx
  obtain ⟨ya, yc, yb, yo, rfl, hya, hyc, _⟩ := hy
  obtain ⟨B, hB⟩ : ∃ B, decide (xs = ys) = B := ⟨_, rfl⟩
  rw [hB]
  replace hB := Lib.hid hB
  replace hxc := Lib.hid hxc
  replace hyc := Lib.hid hyc
  by_cases hlen : xs.length = ys.length
  · rw [← hlen]
    replace hlen := Lib.hid hlen
    have h0 : Hid (xs.take 0 = ys.take 0) := rfl
    go_enter Tryz.func104, Tryz.ntmps104
    go_wp2
    go_loopw [5] (fun iv wr => ∃ i : Nat, iv = .int .i64 i ∧ i ≤ xs.length ∧ Hid (xs.take i = ys.take i) ∧ Qt w wr) (fun iv _ => xs.length - (intOf iv).toNat)
    case atStart => exact ⟨0, rfl, by omega, h0, Qt.refl w⟩
    case round =>
      clear h0
      obtain ⟨i, rfl, hi, ht, n, rfl⟩ := hrel
      by_cases hlt : i < xs.length
      · obtain rfl := hxa (by omega)
        obtain rfl := hya (by rw [← hlen.out]; omega)
        have hlt' : i < ys.length := by rw [← hlen.out]; exact hlt
        have hxi := hxc.out i hlt
        have hyi := hyc.out i hlt'
        obtain ⟨x, hx⟩ : ∃ x, xs.getD i 0 = x := ⟨_, rfl⟩
        obtain ⟨y, hy⟩ : ∃ y, ys.getD i 0 = y := ⟨_, rfl⟩
        rw [hx] at hxi
        rw [hy] at hyi
        by_cases he : x = y
        · subst he
          have ht2 : Hid (xs.take (i + 1) = ys.take (i + 1)) := takes_next ht.out hlt hlt' (by rw [hx, hy])
          clear hx hy ht
          go_wp2
          go_quiet (fail)
          go_wp2
          go_roundw
          case rel => exact ⟨i + 1, by go_num, hlt, ht2, by first | exact (Qt.mk' w n).step nq | exact Qt.mk' w _⟩
          case measure => simp [intOf]; omega
        · have hE : (x == y) = false := by simp [he]
          have hBf : Hid (B = false) := by
            show _ = _
            rw [← hB.out]
            refine decide_eq_false fun h => he ?_
            rw [← hx, ← hy, h]
          clear hx hy he ht
          go_wp2
          go_quiet (fail)
          go_wp2
          go_ret
          exact ⟨by rw [hBf.out]; rfl, by first | exact (Qt.mk' w n).step nq | exact Qt.mk' w _⟩
      · have hBt : Hid (B = true) := by
          show _ = _
          rw [← hB.out]
          exact decide_eq_true (takes_all ht.out (by omega) (by rw [← hlen.out]; omega))
        clear ht
        go_wp2
        go_ret
        exact ⟨by rw [hBt.out]; rfl, Qt.mk' w n⟩
  · have hBf : B = false := by rw [← hB.out]; exact decide_eq_false fun h => hlen (by rw [h])
    subst hBf
    have h1 : ((xs.length : Int) == (ys.length : Int)) = false := by simp; omega
    go_enter Tryz.func104, Tryz.ntmps104
    go_wp2
    go_ret
    exact ⟨rfl, Qt.refl w⟩

end Go.Proofs.YtiiiegflobihjaaGreat

/- The reference's stages: same, place. -/
namespace Go.Proofs.YtiiiegflobihjaaGreat
open Go.RowKit

/-- The state and the faulty processes of a stage. -/
def sgS (x : Nd) : Int := if x.2.2 = [] then x.2.1 else 0
def sgF (x : Nd) : Int := if x.2.2 = [] then 0 else x.2.1
def sgV (x : Nd) (v : Value) : Value := .agg #[.int .i64 x.1, .int .i64 (sgS x), .int .i64 (sgF x), v]
def ESg (w : World) (cs : List Value) (x : Nd) : Prop := ∃ v, cs = [.int .i64 x.1, .int .i64 (sgS x), .int .i64 (sgF x), v] ∧ OI w 0 v x.2.2.length (natI x.2.2)
theorem ESg.stab {E : TypeId} (h : 3 ≠ E) : Stab E ESg := fun _ _ _ _ ⟨u, h1, h2⟩ hx => ⟨u, h1, h2.other h hx⟩
theorem elemSg : ElemK Tryz.prog 83 82 (.agg #[.int .i64 0, .int .i64 0, .int .i64 0, .slice none 0 0]) 4 48 := ⟨by kernel_rfl, by kernel_rfl, rfl⟩
theorem natI_inj {a b : List Nat} (h : natI a = natI b) : a = b := by
  have h1 : ∀ l : List Nat, (natI l).map Int.toNat = l := fun l => by
    rw [natI, List.map_map]
    conv => rhs; rw [← List.map_id l]
    exact List.map_congr_left fun x _ => by simp
  rw [← h1 a, h, h1 b]
theorem sg_eq {x y : Nd} : x = y ↔ x.1 = y.1 ∧ sgS x = sgS y ∧ sgF x = sgF y ∧ natI x.2.2 = natI y.2.2 := by
  constructor
  · rintro rfl; exact ⟨rfl, rfl, rfl, rfl⟩
  · rintro ⟨h1, h2, h3, h4⟩
    replace h4 := natI_inj h4
    unfold sgS at h2
    unfold sgF at h3
    obtain ⟨x0, x1, x2⟩ := x
    obtain ⟨y0, y1, y2⟩ := y
    simp only at h1 h2 h3 h4
    subst h1 h4
    split at h2
    · rw [h2]
    · rename_i h
      rw [if_neg h, if_neg h] at h3
      rw [h3]
theorem box4 {w : World} {b : Nat} {u0 u1 u2 u3 : Value} {t : TypeId} (h : w.heap[b]? = some (.cells #[u0, u1, u2, u3] t)) : w.cell? ⟨b, 0, none⟩ = some u0 ∧ w.cell? ⟨b, 1, none⟩ = some u1 ∧ w.cell? ⟨b, 2, none⟩ = some u2 ∧ w.cell? ⟨b, 3, none⟩ = some u3 := ⟨box_cell h rfl, box_cell h rfl, box_cell h rfl, box_cell h rfl⟩

set_option maxRecDepth 100000 in
set_option maxHeartbeats 800000 in
theorem refSg {w : World} {u v : Value} {x y : Nd} (hu : OI w 0 u x.2.2.length (natI x.2.2)) (hv : OI w 0 v y.2.2.length (natI y.2.2)) (hx : x.2.2.length ≤ 1000) (hy : y.2.2.length ≤ 1000) :
    Calls Tryz.prog 83 #[sgV x u, sgV y v] w fun e w' => e = .returned (.bool (decide (x = y))) ∧ Below w.heap.size w w' := by
  have heq := @sg_eq x y
  obtain ⟨ua, uc, rfl⟩ := hu.shape
  obtain ⟨va, vc, rfl⟩ := hv.shape
  unfold sgV
  obtain ⟨x0, hx0⟩ : ∃ a, x.1 = a := ⟨_, rfl⟩
  obtain ⟨x1, hx1⟩ : ∃ a, sgS x = a := ⟨_, rfl⟩
  obtain ⟨x2, hx2⟩ : ∃ a, sgF x = a := ⟨_, rfl⟩
  obtain ⟨y0, hy0⟩ : ∃ a, y.1 = a := ⟨_, rfl⟩
  obtain ⟨y1, hy1⟩ : ∃ a, sgS y = a := ⟨_, rfl⟩
  obtain ⟨y2, hy2⟩ : ∃ a, sgF y = a := ⟨_, rfl⟩
  rw [hx0, hx1, hx2, hy0, hy1, hy2] at heq
  rw [hx0, hx1, hx2, hy0, hy1, hy2]
  obtain ⟨W1, hW1⟩ : ∃ W1, W1 = (w.alloc (.cells #[.int .i64 x0, .int .i64 x1, .int .i64 x2, .slice ua x.2.2.length uc] 82)).alloc (.cells #[.int .i64 y0, .int .i64 y1, .int .i64 y2, .slice va y.2.2.length vc] 82) := ⟨_, rfl⟩
  have hb1 : Below w.heap.size w W1 := by rw [hW1]; exact ((Below.refl _ w).alloc (Nat.le_refl _) _).alloc (by simp) _
  have kX : W1.heap[w.heap.size]? = some (.cells #[.int .i64 x0, .int .i64 x1, .int .i64 x2, .slice ua x.2.2.length uc] 82) := by rw [hW1]; exact (Below.heap_alloc _ _ _ (by simp)).trans (heap_alloc_new w _)
  have kY : W1.heap[w.heap.size + 1]? = some (.cells #[.int .i64 y0, .int .i64 y1, .int .i64 y2, .slice va y.2.2.length vc] 82) := by
    rw [hW1]
    have := heap_alloc_new (w.alloc (.cells #[.int .i64 x0, .int .i64 x1, .int .i64 x2, .slice ua x.2.2.length uc] 82)) (.cells #[.int .i64 y0, .int .i64 y1, .int .i64 y2, .slice va y.2.2.length vc] 82)
    rwa [World.size_alloc] at this
  obtain ⟨p0, p1, p2, p3⟩ := box4 kX
  obtain ⟨q0, q1, q2, q3⟩ := box4 kY
  have HS := Lib.hid (sameIntsR ((hu.keep hb1).ints (by omega)) ((hv.keep hb1).ints (by omega)))
  obtain ⟨s, hs⟩ : ∃ s, decide (natI x.2.2 = natI y.2.2) = s := ⟨_, rfl⟩
  have hsI : natI x.2.2 = natI y.2.2 ↔ s = true := by rw [← hs, decide_eq_true_iff]
  rw [hs] at HS
  rw [hsI] at heq
  obtain ⟨z, hz⟩ : ∃ z, decide (x = y) = z := ⟨_, rfl⟩
  have hzI : x = y ↔ z = true := by rw [← hz, decide_eq_true_iff]
  rw [hz]
  rw [hzI] at heq
  obtain ⟨xl, hxl⟩ : ∃ l, x.2.2.length = l := ⟨_, rfl⟩
  obtain ⟨yl, hyl⟩ : ∃ l, y.2.2.length = l := ⟨_, rfl⟩
  rw [hxl] at hW1 p3 HS
  rw [hyl] at hW1 q3 HS
  rw [hxl, hyl]
  clear hx0 hx1 hx2 hy0 hy1 hy2 hu hv kX kY hs hsI hz hzI hxl hyl hx hy
  by_cases h0 : x0 = y0
  · have e0 : (x0 == y0) = true := by simp [h0]
    by_cases h1 : x1 = y1
    · have e1 : (x1 == y1) = true := by simp [h1]
      by_cases h2 : x2 = y2
      · have e2 : (x2 == y2) = true := by simp [h2]
        obtain rfl : z = s := by
          have : z = true ↔ s = true := ⟨fun h => (heq.1 h).2.2.2, fun h => heq.2 ⟨h0, h1, h2, h⟩⟩
          cases z <;> cases s <;> simp_all
        subst h0 h1 h2
        clear heq
        rw [hW1] at p0 p1 p2 p3 q0 q1 q2 q3
        go_enter Tryz.func83, Tryz.ntmps83
        go_wp2_with fail
        rw [← hW1]
        refine HS.out.mono ?_
        rintro e W2 ⟨rfl, hq⟩
        have hbf := bt hb1 hq.below hb1.size
        go_wp2
        go_ret
        exact ⟨rfl, hbf⟩
      · have e2 : (x2 == y2) = false := by simp [h2]
        obtain rfl : z = false := by cases z; rfl; exact absurd (heq.1 rfl).2.2.1 h2
        subst h0 h1
        replace h2 := Lib.hid h2
        clear heq
        rw [hW1] at p0 p1 p2 p3 q0 q1 q2 q3
        go_enter Tryz.func83, Tryz.ntmps83
        go_wp2
        go_ret
        rw [← hW1]
        exact ⟨rfl, hb1⟩
    · have e1 : (x1 == y1) = false := by simp [h1]
      obtain rfl : z = false := by cases z; rfl; exact absurd (heq.1 rfl).2.1 h1
      subst h0
      replace h1 := Lib.hid h1
      clear heq
      rw [hW1] at p0 p1 p2 p3 q0 q1 q2 q3
      go_enter Tryz.func83, Tryz.ntmps83
      go_wp2
      go_ret
      rw [← hW1]
      exact ⟨rfl, hb1⟩
  · have e0 : (x0 == y0) = false := by simp [h0]
    obtain rfl : z = false := by cases z; rfl; exact absurd (heq.1 rfl).1 h0
    replace h0 := Lib.hid h0
    clear heq
    rw [hW1] at p0 p1 p2 p3 q0 q1 q2 q3
    go_enter Tryz.func83, Tryz.ntmps83
    go_wp2
    go_ret
    rw [← hW1]
    exact ⟨rfl, hb1⟩

theorem sgCells {w : World} {B g n cap : Nat} {xs : List Nd} (h : OwX 82 4 ESg w B (.slice (some ⟨g, 0, none⟩) n cap) n xs) {j : Nat} {x : Nd} (hj : xs[j]? = some x) :
    ∃ v, w.cell? ⟨g, j * 4, none⟩ = some (.int .i64 x.1) ∧ w.cell? ⟨g, j * 4 + 1, none⟩ = some (.int .i64 (sgS x)) ∧ w.cell? ⟨g, j * 4 + 2, none⟩ = some (.int .i64 (sgF x)) ∧ w.cell? ⟨g, j * 4 + 3, none⟩ = some v ∧ OI w 0 v x.2.2.length (natI x.2.2) := by
  obtain ⟨cs, _, ⟨v, h2, h4⟩, h3⟩ := h.cells hj
  subst h2
  exact ⟨v, h3 0 _ rfl, h3 1 _ rfl, h3 2 _ rfl, h3 3 _ rfl, h4⟩

set_option maxRecDepth 100000 in
set_option maxHeartbeats 1600000 in
theorem refPlace {w : World} {B : Nat} {v u : Value} {xs : List Nd} {y : Nd} (hO : OwX 82 4 ESg w B v xs.length xs) (hl : xs.length ≤ 1000000) (hxs : ∀ x ∈ xs, x.2.2.length ≤ 1000) (hu : OI w 0 u y.2.2.length (natI y.2.2)) (hy : y.2.2.length ≤ 1000) :
    Calls Tryz.prog 46 #[v, sgV y u] w fun e w' => e = .returned (.int .i64 (fndI xs y)) ∧ Below w.heap.size w w' := by
  have hmx : Tryz.prog.follows .mixedOrders = true := by kernel_rfl
  obtain ⟨ua, uc, rfl⟩ := hu.shape
  obtain ⟨y0, hy0⟩ : ∃ a, y.1 = a := ⟨_, rfl⟩
  obtain ⟨y1, hy1⟩ : ∃ a, sgS y = a := ⟨_, rfl⟩
  obtain ⟨y2, hy2⟩ : ∃ a, sgF y = a := ⟨_, rfl⟩
  obtain ⟨yl, hyl⟩ : ∃ l, y.2.2.length = l := ⟨_, rfl⟩
  have hV : sgV y (.slice ua yl uc) = .agg #[.int .i64 y0, .int .i64 y1, .int .i64 y2, .slice ua yl uc] := by rw [sgV, hy0, hy1, hy2]
  rw [hyl] at hu hy ⊢
  obtain ⟨W1, hW1⟩ : ∃ W1, W1 = w.alloc (.cells #[.int .i64 y0, .int .i64 y1, .int .i64 y2, .slice ua yl uc] 82) := ⟨_, rfl⟩
  have hb1 : Below w.heap.size w W1 := by rw [hW1]; exact (Below.refl _ w).alloc (Nat.le_refl _) _
  have k1 : W1.heap[w.heap.size]? = some (.cells #[.int .i64 y0, .int .i64 y1, .int .i64 y2, .slice ua yl uc] 82) := by rw [hW1]; exact heap_alloc_new _ _
  obtain ⟨d0, d1, d2, d3⟩ := box4 k1
  have hO1 := hO.keep (ESg.stab (by decide)) hb1
  obtain ⟨va, vc, hv⟩ := hO.shape
  subst hv
  have HS := Lib.hid (fun W x xv (hb : Below W1.heap.size W1 W) (hx : x ∈ xs) (hxv : OI W 0 xv x.2.2.length (natI x.2.2)) => refSg (y := y) hxv (by rw [hyl]; exact (hu.keep hb1).keep hb) (hxs x hx) (by omega))
  rw [hV] at HS ⊢
  have hcm := Lib.hid (fun W (hb : Below W1.heap.size W1 W) g cap (hg : Value.slice va xs.length vc = .slice (some ⟨g, 0, none⟩) xs.length cap) j x (hj : xs[j]? = some x) => sgCells (by rw [← hg]; exact hO1.keep (ESg.stab (by decide)) hb) hj)
  have hbx := Lib.hid (fun W (hb : Below W1.heap.size W1 W) => box4 ((hb.block _ (Array.getElem?_eq_some_iff.1 k1).1).trans k1))
  have hfm := Lib.hid (fun (h : 0 < xs.length) => hO1.form h)
  obtain ⟨z, hz⟩ : ∃ z, fndI xs y = z := ⟨_, rfl⟩
  rw [hz]
  replace hz := Lib.hid hz
  have hn0 : Hid (∀ j, j < 0 → xs[j]? ≠ some y) := fun j hj => absurd hj (by omega)
  replace hy0 := Lib.hid hy0
  replace hy1 := Lib.hid hy1
  replace hy2 := Lib.hid hy2
  replace hyl := Lib.hid hyl
  clear k1 hO hO1 hV hu
  go_enter Tryz.func46, Tryz.ntmps46
  go_wp2_with fail
  rw [← hW1]
  replace hW1 := Lib.hid hW1
  clear d0 d1 d2 d3
  go_loopw [5] (fun jv wr => ∃ k : Nat, jv = .int .i64 k ∧ k ≤ xs.length ∧ Hid (∀ j, j < k → xs[j]? ≠ some y) ∧ Below W1.heap.size W1 wr) (fun jv _ => xs.length - (intOf jv).toNat)
  case atStart => exact ⟨0, rfl, by omega, hn0, Below.refl _ _⟩
  case round =>
    clear hn0
    obtain ⟨k, rfl, hk, hnk, hbr⟩ := hrel
    by_cases hlt : k < xs.length
    · have hki : (k : Int) < (xs.length : Int) := by omega
      obtain ⟨g, cap, hve, _⟩ := hfm.out (by omega)
      obtain ⟨x, hx⟩ : ∃ x, xs[k]? = some x := ⟨_, List.getElem?_eq_getElem hlt⟩
      obtain ⟨xv, c0, c1, c2, c3, hxv⟩ := hcm.out wr hbr g cap hve k x hx
      obtain ⟨d0, d1, d2, d3⟩ := hbx.out wr hbr
      obtain ⟨rfl, rfl⟩ : va = some ⟨g, 0, none⟩ ∧ vc = cap := by injection hve with h1 h2 h3; exact ⟨h1, h3⟩
      have HC := Lib.hid (fun wq (hb : Below wr.heap.size wr wq) => HS.out wq x xv (hbr.trans (hb.mono hbr.size)) (List.mem_of_getElem? hx) (hxv.keep hb))
      obtain ⟨q, hq⟩ : ∃ q, decide (x = y) = q := ⟨_, rfl⟩
      rw [hq] at HC
      unfold sgV at HC
      obtain ⟨x0, hx0⟩ : ∃ a, x.1 = a := ⟨_, rfl⟩
      obtain ⟨x1, hx1⟩ : ∃ a, sgS x = a := ⟨_, rfl⟩
      obtain ⟨x2, hx2⟩ : ∃ a, sgF x = a := ⟨_, rfl⟩
      rw [hx0, hx1, hx2] at HC
      rw [hx0] at c0
      rw [hx1] at c1
      rw [hx2] at c2
      replace hx0 := Lib.hid hx0
      replace hx1 := Lib.hid hx1
      replace hx2 := Lib.hid hx2
      have hf := Lib.hid (fun wq (hC : Below wr.heap.size wr wq) => And.intro (cell_kept hC c0) (And.intro (cell_kept hC c1) (And.intro (cell_kept hC c2) (And.intro (cell_kept hC c3) (And.intro (cell_kept hC d0) (And.intro (cell_kept hC d1) (And.intro (cell_kept hC d2) (cell_kept hC d3))))))))
      replace hq := Lib.hid hq
      clear hve hxv c0 c1 c2 c3 d0 d1 d2 d3
      go_wp2_with fail
      refine wp_region_bw hmx (by kernel_rfl) ?_
      repeat (refine WQ.step (fun K hK => ?_)
              go_simp
              first
                | (refine hK _ ?_; clear hK K)
                | (apply Exists.intro
                   refine ⟨fun wq hC => ?_, hK _ ?_⟩
                   · (first | with_reducible rfl | (obtain ⟨c0, c1, c2, c3, d0, d1, d2, d3⟩ := hf.out wq hC; go_simp; first | done | with_reducible rfl | with_reducible exact ⟨rfl, rfl⟩))
                   clear hK K))
      (refine WQ.step (fun K hK => ?_)
       go_simp
       first
         | (refine hK _ ?_; clear hK K)
         | (apply Exists.intro
            refine ⟨fun wq hC => ?_, hK _ ?_⟩
            · (refine (HC.out wq hC).mono ?_; rintro e w' ⟨rfl, hb⟩; exact ⟨rfl, bt hC hb hC.size⟩)
            clear hK K))
      repeat (refine WQ.step (fun K hK => ?_)
              go_simp
              first
                | (refine hK _ ?_; clear hK K)
                | (apply Exists.intro
                   refine ⟨fun wq hC => ?_, hK _ ?_⟩
                   · (first | with_reducible rfl | (go_simp; first | done | with_reducible rfl | with_reducible exact ⟨rfl, rfl⟩))
                   clear hK K))
      refine WQ.nil ?_
      intro w4 hb4
      have hbf := hbr.trans (hb4.mono hbr.size)
      cases q
      · have hne : x ≠ y := fun h => by have := hq.out; rw [decide_eq_true h] at this; cases this
        have hn2 : Hid (∀ j, j < k + 1 → xs[j]? ≠ some y) := fun j hj h => by
          rcases Nat.eq_or_lt_of_le (Nat.le_of_lt_succ hj) with h1 | h1
          · subst h1
            rw [hx] at h
            injection h with h
            exact hne h
          · exact hnk.out j h1 h
        clear hnk hx hne
        go_wp2
        go_roundw
        case rel => exact ⟨k + 1, by go_num, hlt, hn2, hbf⟩
        case measure => simp [intOf]; omega
      · have he : x = y := of_decide_eq_true hq.out
        rw [he] at hx
        have hm := List.mem_of_getElem? hx
        have hi := ixOf_at hnk.out hx
        obtain rfl : z = (k : Int) := by rw [← hz.out, fndI, if_pos hm, hi]
        clear he hnk hm hi hx
        have hbe := bt hb1 hbf hb1.size
        go_wp2
        go_ret
        exact ⟨rfl, hbe⟩
    · obtain rfl : z = -1 := by
        rw [← hz.out, fndI, if_neg]
        intro h
        obtain ⟨j, hj, he⟩ := List.mem_iff_getElem.1 h
        exact hnk.out j (by omega) (by rw [List.getElem?_eq_getElem hj, he])
      have hge : ¬ ((k : Int) < (xs.length : Int)) := by omega
      have hbe := bt hb1 hbr hb1.size
      clear hnk
      go_wp2
      go_ret
      exact ⟨rfl, hbe⟩
end Go.Proofs.YtiiiegflobihjaaGreat

/- The reference: joined. -/
namespace Go.Proofs.YtiiiegflobihjaaGreat
open Go.RowKit

theorem row7 {w : World} {b : Nat} {u0 u1 u2 u3 u4 u5 u6 : Value} {t : TypeId} (h : w.heap[b]? = some (.cells #[u0, u1, u2, u3, u4, u5, u6] t)) : (∀ j, w.frozen? ⟨b, j, none⟩ = false) ∧ w.cell? ⟨b, 0, none⟩ = some u0 ∧ w.cell? ⟨b, 1, none⟩ = some u1 ∧ w.cell? ⟨b, 2, none⟩ = some u2 ∧ w.cell? ⟨b, 3, none⟩ = some u3 ∧ w.cell? ⟨b, 4, none⟩ = some u4 ∧ w.cell? ⟨b, 5, none⟩ = some u5 ∧ w.cell? ⟨b, 6, none⟩ = some u6 := ⟨row_free h, box_cell h rfl, box_cell h rfl, box_cell h rfl, box_cell h rfl, box_cell h rfl, box_cell h rfl, box_cell h rfl⟩
theorem boxSet7 {w : World} {g : Nat} {x0 x1 x2 x3 x4 x5 x6 u0 u1 u2 u3 u4 u5 u6 : Value} {t : TypeId} (h : w.heap[g]? = some (.cells #[x0, x1, x2, x3, x4, x5, x6] t)) :
    (((((((w.setCell ⟨g, 0, none⟩ u0).setCell ⟨g, 1, none⟩ u1).setCell ⟨g, 2, none⟩ u2).setCell ⟨g, 3, none⟩ u3).setCell ⟨g, 4, none⟩ u4).setCell ⟨g, 5, none⟩ u5).setCell ⟨g, 6, none⟩ u6).heap[g]? = some (.cells #[u0, u1, u2, u3, u4, u5, u6] t) := by
  have h0 : (w.setCell ⟨g, 0, none⟩ u0).heap[g]? = some (.cells #[u0, x1, x2, x3, x4, x5, x6] t) := heap_setCell_same _ g 0 _ t u0 h
  have h1 : ((w.setCell ⟨g, 0, none⟩ u0).setCell ⟨g, 1, none⟩ u1).heap[g]? = some (.cells #[u0, u1, x2, x3, x4, x5, x6] t) := heap_setCell_same _ g 1 _ t u1 h0
  have h2 : (((w.setCell ⟨g, 0, none⟩ u0).setCell ⟨g, 1, none⟩ u1).setCell ⟨g, 2, none⟩ u2).heap[g]? = some (.cells #[u0, u1, u2, x3, x4, x5, x6] t) := heap_setCell_same _ g 2 _ t u2 h1
  have h3 : ((((w.setCell ⟨g, 0, none⟩ u0).setCell ⟨g, 1, none⟩ u1).setCell ⟨g, 2, none⟩ u2).setCell ⟨g, 3, none⟩ u3).heap[g]? = some (.cells #[u0, u1, u2, u3, x4, x5, x6] t) := heap_setCell_same _ g 3 _ t u3 h2
  have h4 : (((((w.setCell ⟨g, 0, none⟩ u0).setCell ⟨g, 1, none⟩ u1).setCell ⟨g, 2, none⟩ u2).setCell ⟨g, 3, none⟩ u3).setCell ⟨g, 4, none⟩ u4).heap[g]? = some (.cells #[u0, u1, u2, u3, u4, x5, x6] t) := heap_setCell_same _ g 4 _ t u4 h3
  have h5 : ((((((w.setCell ⟨g, 0, none⟩ u0).setCell ⟨g, 1, none⟩ u1).setCell ⟨g, 2, none⟩ u2).setCell ⟨g, 3, none⟩ u3).setCell ⟨g, 4, none⟩ u4).setCell ⟨g, 5, none⟩ u5).heap[g]? = some (.cells #[u0, u1, u2, u3, u4, u5, x6] t) := heap_setCell_same _ g 5 _ t u5 h4
  have h6 : (((((((w.setCell ⟨g, 0, none⟩ u0).setCell ⟨g, 1, none⟩ u1).setCell ⟨g, 2, none⟩ u2).setCell ⟨g, 3, none⟩ u3).setCell ⟨g, 4, none⟩ u4).setCell ⟨g, 5, none⟩ u5).setCell ⟨g, 6, none⟩ u6).heap[g]? = some (.cells #[u0, u1, u2, u3, u4, u5, u6] t) := heap_setCell_same _ g 6 _ t u6 h5
  exact h6
set_option maxRecDepth 100000 in
set_option maxHeartbeats 1600000 in
theorem joinedC {w : World} {r0 r1 r2 r3 r4 r5 r6 f : Int} (h6 : 0 ≤ r6 ∧ r6 ≤ 31) (hf : 0 ≤ f ∧ f ≤ 31) :
    Calls Tryz.prog 80 #[.agg #[.int .i64 r0, .int .i64 r1, .int .i64 r2, .int .i64 r3, .int .i64 r4, .int .i64 r5, .int .i64 r6], .int .i64 f] w fun e w' =>
      e = .returned (.agg #[.int .i64 r0, .int .i64 r1, .int .i64 r2, .int .i64 r3, .int .i64 r4, .int .i64 r5, .int .i64 (orI r6 f)]) ∧ Below w.heap.size w w' := by
  obtain ⟨W1, hW1⟩ : ∃ W1, W1 = (w.alloc (.cells #[.int .i64 r0, .int .i64 r1, .int .i64 r2, .int .i64 r3, .int .i64 r4, .int .i64 r5, .int .i64 r6] 51)).alloc (.cells #[.int .i64 0, .int .i64 0, .int .i64 0, .int .i64 0, .int .i64 0, .int .i64 0, .int .i64 0] 51) := ⟨_, rfl⟩
  have hb1 : Below w.heap.size w W1 := by rw [hW1]; exact ((Below.refl _ w).alloc (Nat.le_refl _) _).alloc (by simp) _
  have kX : W1.heap[w.heap.size]? = some (.cells #[.int .i64 r0, .int .i64 r1, .int .i64 r2, .int .i64 r3, .int .i64 r4, .int .i64 r5, .int .i64 r6] 51) := by rw [hW1]; exact (Below.heap_alloc _ _ _ (by simp)).trans (heap_alloc_new w _)
  have kR : W1.heap[w.heap.size + 1]? = some (.cells #[.int .i64 0, .int .i64 0, .int .i64 0, .int .i64 0, .int .i64 0, .int .i64 0, .int .i64 0] 51) := by
    rw [hW1]
    have := heap_alloc_new (w.alloc (.cells #[.int .i64 r0, .int .i64 r1, .int .i64 r2, .int .i64 r3, .int .i64 r4, .int .i64 r5, .int .i64 r6] 51)) (.cells #[.int .i64 0, .int .i64 0, .int .i64 0, .int .i64 0, .int .i64 0, .int .i64 0, .int .i64 0] 51)
    rwa [World.size_alloc] at this
  have HE := Lib.hid (fun W => refEither r6 f W h6 hf)
  obtain ⟨o, ho⟩ : ∃ o, orI r6 f = o := ⟨_, rfl⟩
  rw [ho] at HE ⊢
  have d0 : W1.cell? ⟨w.heap.size, 0, none⟩ = some (.int .i64 r0) := box_cell (j := 0) kX rfl
  have d1 : W1.cell? ⟨w.heap.size, 1, none⟩ = some (.int .i64 r1) := box_cell (j := 1) kX rfl
  have d2 : W1.cell? ⟨w.heap.size, 2, none⟩ = some (.int .i64 r2) := box_cell (j := 2) kX rfl
  have d3 : W1.cell? ⟨w.heap.size, 3, none⟩ = some (.int .i64 r3) := box_cell (j := 3) kX rfl
  have d4 : W1.cell? ⟨w.heap.size, 4, none⟩ = some (.int .i64 r4) := box_cell (j := 4) kX rfl
  have d5 : W1.cell? ⟨w.heap.size, 5, none⟩ = some (.int .i64 r5) := box_cell (j := 5) kX rfl
  have d6 : W1.cell? ⟨w.heap.size, 6, none⟩ = some (.int .i64 r6) := box_cell (j := 6) kX rfl
  have hq := Lib.hid (fun w5 (hb : Qt W1 w5) => show w5.heap[w.heap.size + 1]? = some (.cells #[.int .i64 0, .int .i64 0, .int .i64 0, .int .i64 0, .int .i64 0, .int .i64 0, .int .i64 0] 51) ∧ Below w.heap.size w w5 from ⟨(hb.below.block _ (Array.getElem?_eq_some_iff.1 kR).1).trans kR, bt hb1 hb.below hb1.size⟩)
  have hkp := Lib.hid (fun w5 (hb : Qt W1 w5) => show w5.cell? ⟨w.heap.size, 0, none⟩ = some (.int .i64 r0) ∧ w5.cell? ⟨w.heap.size, 1, none⟩ = some (.int .i64 r1) ∧ w5.cell? ⟨w.heap.size, 2, none⟩ = some (.int .i64 r2) ∧ w5.cell? ⟨w.heap.size, 3, none⟩ = some (.int .i64 r3) ∧ w5.cell? ⟨w.heap.size, 4, none⟩ = some (.int .i64 r4) ∧ w5.cell? ⟨w.heap.size, 5, none⟩ = some (.int .i64 r5) ∧ w5.cell? ⟨w.heap.size, 6, none⟩ = some (.int .i64 r6) from ⟨cell_kept hb.below d0, cell_kept hb.below d1, cell_kept hb.below d2, cell_kept hb.below d3, cell_kept hb.below d4, cell_kept hb.below d5, cell_kept hb.below d6⟩)
  replace ho := Lib.hid ho
  clear kX kR
  rw [hW1] at d0 d1 d2 d3 d4 d5 d6
  go_enter Tryz.func80, Tryz.ntmps80
  go_wp2_with fail
  rw [← hW1]
  rw [← hW1] at d0 d1 d2 d3 d4 d5 d6
  replace hW1 := Lib.hid hW1
  go_region_held3 (fun w' => w'.cell? ⟨w.heap.size, 0, none⟩ = some (.int .i64 r0) ∧ w'.cell? ⟨w.heap.size, 1, none⟩ = some (.int .i64 r1) ∧ w'.cell? ⟨w.heap.size, 2, none⟩ = some (.int .i64 r2) ∧ w'.cell? ⟨w.heap.size, 3, none⟩ = some (.int .i64 r3) ∧ w'.cell? ⟨w.heap.size, 4, none⟩ = some (.int .i64 r4) ∧ w'.cell? ⟨w.heap.size, 5, none⟩ = some (.int .i64 r5) ∧ w'.cell? ⟨w.heap.size, 6, none⟩ = some (.int .i64 r6))
    (first
      | go_keep
      | (exact hk5))
    (first
      | (go_at_call 103; (with_reducible refine (HE.out _).mono ?_); rintro e w5 ⟨rfl, hb5⟩; replace hb5 := Qt.trans (Qt.mk' W1 1) hb5; have hA := hq.out w5 hb5; have hk5 := hkp.out w5 hb5; obtain ⟨yf, y0, y1, y2, y3, y4, y5, y6⟩ := row7 hA.1))
  have kN8 := boxSet7 (u0 := .int .i64 r0) (u1 := .int .i64 r1) (u2 := .int .i64 r2) (u3 := .int .i64 r3) (u4 := .int .i64 r4) (u5 := .int .i64 r5) (u6 := .int .i64 o) hA.1
  have hb8 : Below w.heap.size w (((((((w5.setCell ⟨w.heap.size + 1, 0, none⟩ (.int .i64 r0)).setCell ⟨w.heap.size + 1, 1, none⟩ (.int .i64 r1)).setCell ⟨w.heap.size + 1, 2, none⟩ (.int .i64 r2)).setCell ⟨w.heap.size + 1, 3, none⟩ (.int .i64 r3)).setCell ⟨w.heap.size + 1, 4, none⟩ (.int .i64 r4)).setCell ⟨w.heap.size + 1, 5, none⟩ (.int .i64 r5)).setCell ⟨w.heap.size + 1, 6, none⟩ (.int .i64 o)) := (Below.setCell (Below.setCell (Below.setCell (Below.setCell (Below.setCell (Below.setCell (Below.setCell hA.2 (p := ⟨w.heap.size + 1, 0, none⟩) (Nat.le_succ _) (.int .i64 r0)) (p := ⟨w.heap.size + 1, 1, none⟩) (Nat.le_succ _) (.int .i64 r1)) (p := ⟨w.heap.size + 1, 2, none⟩) (Nat.le_succ _) (.int .i64 r2)) (p := ⟨w.heap.size + 1, 3, none⟩) (Nat.le_succ _) (.int .i64 r3)) (p := ⟨w.heap.size + 1, 4, none⟩) (Nat.le_succ _) (.int .i64 r4)) (p := ⟨w.heap.size + 1, 5, none⟩) (Nat.le_succ _) (.int .i64 r5)) (p := ⟨w.heap.size + 1, 6, none⟩) (Nat.le_succ _) (.int .i64 o))
  obtain ⟨W8, hW8⟩ : ∃ W8, W8 = (((((((w5.setCell ⟨w.heap.size + 1, 0, none⟩ (.int .i64 r0)).setCell ⟨w.heap.size + 1, 1, none⟩ (.int .i64 r1)).setCell ⟨w.heap.size + 1, 2, none⟩ (.int .i64 r2)).setCell ⟨w.heap.size + 1, 3, none⟩ (.int .i64 r3)).setCell ⟨w.heap.size + 1, 4, none⟩ (.int .i64 r4)).setCell ⟨w.heap.size + 1, 5, none⟩ (.int .i64 r5)).setCell ⟨w.heap.size + 1, 6, none⟩ (.int .i64 o)) := ⟨_, rfl⟩
  rw [← hW8] at kN8 hb8 ⊢
  clear hW8
  obtain ⟨_, z0, z1, z2, z3, z4, z5, z6⟩ := row7 kN8
  go_wp2
  refine bodyPost_ret (v := .agg #[.int .i64 r0, .int .i64 r1, .int .i64 r2, .int .i64 r3, .int .i64 r4, .int .i64 r5, .int .i64 o]) (by simp [results, Tryz.results80, go_sem, z0, z1, z2, z3, z4, z5, z6]) rfl ⟨rfl, hb8⟩
end Go.Proofs.YtiiiegflobihjaaGreat

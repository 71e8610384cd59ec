/- Order and Odd. -/
import Derived.Test.YtpjlaaldepfnkaaDoorIa
import Derived.Test.YtpjlaaldepfnkaaDoorWh
import Derived.Test.YtpjlaaldepfnkaaDoorWi
import Derived.Test.YtpjlaaldepfnkaaDoorWb
import Derived.Test.YtpjlaaldepfnkaaDoorRd
import Derived.Shelf.RegionOpen
namespace Go.Proofs.YtpjlaaldepfnkaaDoor
open Go.RowKit
attribute [local go_sem] Oper.semAt_some

def ordF (L : List (List Int)) : Nat := L.foldl (fun n c => n / Nat.gcd n c.length * c.length) 1
theorem ordF_snoc (L : List (List Int)) (c : List Int) : ordF (L ++ [c]) = ordF L / Nat.gcd (ordF L) c.length * c.length := by simp [ordF]
/-- What Order asks of the cycles. -/
def OrdL (L : List (List Int)) : Prop := ∀ pre x r, pre ++ x :: r = L → ordF pre < 1000 ∧ 1 ≤ ordF pre ∧ x.length ≤ 5 ∧ 1 ≤ x.length
/-- One box of an int. -/
def Box1 (Bn : Nat) (D : Nat → Prop) (W : World) (n : Int) : Prop := (∀ k, D k ↔ k = Bn) ∧ W.heap[Bn]? = some (.cells #[.int .i64 n] 3 (0, 0))
theorem Box1.stable {α : Type} (Bn : Nat) (f : List α → Int) : Stable (fun pre D W => Box1 Bn D W (f pre)) := fun _ _ _ _ h _ hk => ⟨h.1, (hk Bn ((h.1 Bn).2 rfl)).trans h.2⟩

theorem ord_arith (n g m : Nat) (_h1 : 1 ≤ g) (h2 : n < 1000) (h3 : n / g ≤ n) (h4 : n / g * m ≤ 1000 * 5) :
    (0 : Int) ≤ (n : Int) / (g : Int) ∧ (n : Int) / (g : Int) ≤ 1000 ∧ (n : Int) / (g : Int) * (m : Int) ≤ 5000 ∧ (0 : Int) ≤ (n : Int) / (g : Int) * (m : Int) ∧ ((n / g * m : Nat) : Int) = (n : Int) / (g : Int) * (m : Int) := by
  have e1 : ((n / g : Nat) : Int) = (n : Int) / (g : Int) := by simp
  have e2 : ((n / g * m : Nat) : Int) = (n : Int) / (g : Int) * (m : Int) := by simp
  refine ⟨?_, ?_, by rw [← e2]; omega, by rw [← e2]; omega, e2⟩
  · rw [← e1]; exact Int.natCast_nonneg _
  · rw [← e1]; omega

set_option maxRecDepth 100000 in
set_option maxHeartbeats 600000 in
theorem order0 {w : World} {v : Value} {a : List Int} (h : Ints w v a) (hz : chk a = 0) {L : List (List Int)} (hL : cyOut a a.length 0 (List.replicate a.length false) = some L) (hO : OrdL L) :
    Calls Tryd.prog 15 #[v] w (R2 w (ordF L) 0) := by
  obtain ⟨h1, h5, hG, _⟩ := chk_good hz
  have H := Lib.hid (check h)
  rw [hz] at H
  clear hz
  obtain ⟨aa, ac, ab, off, rfl, ha, hc, hl⟩ := h
  refine callsIn_wide.1 (callsIn_of_wp_marks (n := 0) Tryd.func15 rfl trivial ?_)
  simp only [Tryd.ntmps15, List.size_toArray, List.length_cons, List.length_nil, Nat.reduceAdd, Nat.reduceSub, Array.replicate_succ, Array.replicate_zero, List.push_toArray, List.append_toArray, List.nil_append, List.cons_append]
  refine wpIn_wide.2 ?_
  go_wp2_with (first | (go_at_call 19; refine H.out.mono ?_; rintro e w1 ⟨rfl, hb1⟩) | (go_at_call 49; refine (cyclesCall _ _ _ _).mono ?_; rintro e w2 ⟨rfl, rfl⟩))
  have hBn : ((w1.alloc (.cells #[.int .i64 1] 3)).alloc (.cells #[.slice aa a.length ac] 22)).heap[w1.heap.size]? = some (.cells #[.int .i64 1] 3 (0, 0)) := (Below.heap_alloc _ _ _ (by simp)).trans (World.alloc_heap_new w1 _)
  have hBx : ((w1.alloc (.cells #[.int .i64 1] 3)).alloc (.cells #[.slice aa a.length ac] 22)).cell? ⟨w1.heap.size + 1, 0, none⟩ = some (.slice aa a.length ac) := by
    have := World.alloc_heap_new (w1.alloc (.cells #[.int .i64 1] 3)) (.cells #[.slice aa a.length ac] 22)
    rw [World.size_alloc] at this
    exact cell_of_one this
  have hbW : Below w.heap.size w ((w1.alloc (.cells #[.int .i64 1] 3)).alloc (.cells #[.slice aa a.length ac] 22)) := (hb1.alloc hb1.size _).alloc (by have := hb1.size; simp; omega) _
  have habl : ab < w.heap.size := World.block_lt_of_cell? w _ (hc 0 h1)
  obtain ⟨wL, hwL⟩ : ∃ wL, wL = (w1.alloc (.cells #[.int .i64 1] 3)).alloc (.cells #[.slice aa a.length ac] 22) := ⟨_, rfl⟩
  have hsL : wL.heap.size = w1.heap.size + 2 := by rw [hwL]; simp
  rw [← hwL] at hBn hBx hbW ⊢
  obtain ⟨Bn, hBne⟩ : ∃ Bn, Bn = w1.heap.size := ⟨_, rfl⟩
  have hs1 := hb1.size
  rw [← hBne] at hBn hBx hsL hs1 ⊢
  clear hwL hBne hb1 H
  have hcL := hc.keep hbW
  have hmx : Tryd.prog.follows .mixedOrders = true := by kernel_rfl
  refine wpIn_wide.1 (wpIn_rf (gf := 71) (lb := #[.pointer (some ⟨Bn + 1, 0, none⟩)]) rfl (enters_of Tryd.func71 (by kernel_rfl) rfl) (cycSeq hBx ha hcL hG h5 (by omega) hL) (Below.refl _ _) (fun _ => rfl) cycR_put
    (fun pre D W => Box1 Bn D W (ordF (pre.map Prod.snd))) (fun _ _ _ _ => False) (Box1.stable Bn _) (fun _ _ _ _ _ h _ _ => h) (fun k => k = Bn) (fun k hk => by rw [hk]; omega) (fun k hk => by omega) (fun k hk => by omega) ⟨fun _ => Iff.rfl, hBn⟩
    (fun x => { tmps := #[.slice aa a.length ac, undef, .int .i64 0, .int .i64 0, .int .i64 0, .pointer (some ⟨Bn, 0, none⟩), x.1, .slice aa a.length ac, .int .i64 0, .int .i64 0, .bool false, undef, .slice aa a.length ac, .func (.func 71) #[] #[.pointer (some ⟨Bn + 1, 0, none⟩)], x.1, undef, undef, undef, undef, undef, undef, undef, undef, undef, undef], defers := [] }) ?assign ?body ?done ?stop)
  case assign =>
    intro l x W K hK
    gi_wp2
    exact hK
  case body =>
    rintro l pre ⟨xv, xl⟩ D W ⟨hD, hbox⟩ hBd hOn hGr ⟨hx, r, hr⟩ hlen
    obtain ⟨o1, o2, o3, o4⟩ := hO _ _ _ hr
    have hsn := Lib.hid (ordF_snoc (pre.map Prod.snd) xl)
    simp only at hx
    obtain ⟨ca, cc, rfl⟩ := hx.shape
    obtain ⟨n, hn⟩ : ∃ n, ordF (pre.map Prod.snd) = n := ⟨_, rfl⟩
    rw [hn] at hbox o1 o2 hsn
    have hcn := cell_of_one hbox
    have hfn := free_of_one hbox
    have g1 : 1 ≤ Nat.gcd n xl.length := Nat.gcd_pos_of_pos_left _ (by omega)
    have g2 : n / Nat.gcd n xl.length ≤ n := Nat.div_le_self _ _
    have g3 : n / Nat.gcd n xl.length * xl.length ≤ 1000 * 5 := Nat.mul_le_mul (by omega) o3
    clear hn hr hlen hO hOn hGr hBn hBx hcL hG hc ha hL
    gi_wp2
    have HG := fun W' => gcdCall n xl.length W' (by omega) (by omega)
    obtain ⟨gg, hgg⟩ : ∃ gg, Nat.gcd n xl.length = gg := ⟨_, rfl⟩
    rw [hgg] at hsn g1 g2 g3
    simp only [hgg] at HG
    replace HG := Lib.hid HG
    clear hgg
    obtain ⟨q1, q2, q3, q4, e1⟩ := ord_arith n gg xl.length g1 o1 g2 g3
    replace e1 := Lib.hid e1
    have hg0 : ¬ gg = 0 := by omega
    have wr1 : IntKind.i64.wrap ((n : Int) / (gg : Int)) = (n : Int) / (gg : Int) := IntWalk.i64_in _ (by omega)
    have wr2 : IntKind.i64.wrap ((n : Int) / (gg : Int) * (xl.length : Int)) = (n : Int) / (gg : Int) * (xl.length : Int) := IntWalk.i64_in _ (by omega)
    clear q1 q2 q3 q4 g1 g2 g3
    refine wpIn_region_qtail 9 hmx (by kernel_rfl) (by kernel_rfl) (by kernel_rfl) (by rintro ⟨a, w, h⟩; exact h) ?_
    intro ops'
    simp only [List.take_succ_cons, List.take_zero, List.drop_succ_cons, List.drop_zero]
    repeat (quiet_step ((go_at_call 50; exact Calls.quiet_of (HG.out _))))
    refine wpQuiet_nil ?_
    intro k
    go_wp2
    refine ⟨D, ((Only.refl D W).drewN k).setCell (p := ⟨Bn, 0, none⟩) ((hD Bn).2 rfl) _, Gr.refl _ _, fun i hi => by have := hBd i hi; simpa [World.setCell] using this, hD, ?_⟩
    rw [List.map_append]
    have := one_setCell (w := W.drewN k) (b := Bn) (u := .int .i64 (↑n / ↑gg * ↑xl.length)) hbox
    show _ = some (Obj.cells #[.int .i64 ((ordF (List.map Prod.snd pre ++ [xl]) : Nat) : Int)] 3 (0, 0))
    rw [hsn.out, e1.out]
    exact this
  case done =>
    intro d xs D W hS hI hOn hGr hd hnd hdef
    obtain ⟨hD, hbox⟩ := hI
    have hcn := cell_of_one hbox
    rw [hS] at hcn
    clear hbox
    go_wp2
    refine ⟨by simp, .inl ⟨_, _, rfl, run_takeDeferred hdef, ?_⟩⟩
    exact ⟨_, results_tmp2 rfl _ _ _, R2.mk' rfl rfl (below_putObj (hbW.trans (hOn.below hbW.size (fun i hi => by omega))) (by omega) _)⟩
  case stop =>
    intro d c pre D W _ h
    exact h.elim

def cycL (a : List Int) : List (List Int) := (cyOut a a.length 0 (List.replicate a.length false)).getD []
/-- What is asked of the cycles of a permutation. -/
def CycOK (a : List Int) : Prop := (∃ L, cyOut a a.length 0 (List.replicate a.length false) = some L) ∧ OrdL (cycL a)
theorem CycOK.eq {a : List Int} (h : CycOK a) : cyOut a a.length 0 (List.replicate a.length false) = some (cycL a) := by
  obtain ⟨⟨L, hL⟩, _⟩ := h; rw [cycL, hL]; rfl
def ordP (a : List Int) : Int := if chk a = 0 then ordF (cycL a) else 0

set_option maxRecDepth 100000 in
set_option maxHeartbeats 800000 in
theorem orderCall {w : World} {v : Value} {a : List Int} (h : Ints w v a) (hC : chk a = 0 → CycOK a) : Calls Tryd.prog 15 #[v] w (R2 w (ordP a) (chk a)) := by
  by_cases hz : chk a = 0
  · have h1 := order0 h hz (hC hz).eq (hC hz).2
    rw [ordP, if_pos hz, hz]
    exact h1
  · have H := Lib.hid (check h)
    obtain ⟨E, hE⟩ : ∃ E, chk a = E := ⟨_, rfl⟩
    have hL := Lib.hid (show ordP a = 0 by rw [ordP, if_neg hz])
    rw [hE] at H hz ⊢
    have hz' : (E != 0) = true := by simpa using hz
    clear hz h hE hC
    refine callsIn_wide.1 (callsIn_of_wp_marks (n := 0) Tryd.func15 rfl trivial ?_)
    simp only [Tryd.ntmps15, List.size_toArray, List.length_cons, List.length_nil, Nat.reduceAdd, Nat.reduceSub, Array.replicate_succ, Array.replicate_zero, List.push_toArray, List.append_toArray, List.nil_append, List.cons_append]
    refine wpIn_wide.2 ?_
    go_wp2_with (go_at_call 19; refine H.out.mono ?_; rintro e w1 ⟨rfl, hb1⟩)
    exact ⟨_, results_tmp2 rfl _ _ _, R2.mk' hL.out.symm rfl hb1⟩
end Go.Proofs.YtpjlaaldepfnkaaDoor

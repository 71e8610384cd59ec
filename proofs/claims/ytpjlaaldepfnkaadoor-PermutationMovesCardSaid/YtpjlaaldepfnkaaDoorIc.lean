/- Odd. -/
import Derived.Test.YtpjlaaldepfnkaaDoorIb
namespace Go.Proofs.YtpjlaaldepfnkaaDoor
open Go.RowKit
attribute [local go_sem] Oper.semAt_some

def oddF (L : List (List Int)) : Nat := L.foldl (fun n c => n + (c.length - 1)) 0
theorem oddF_snoc (L : List (List Int)) (c : List Int) : oddF (L ++ [c]) = oddF L + (c.length - 1) := by simp [oddF]
def oddB (L : List (List Int)) : Bool := ((oddF L : Nat) : Int) % 2 == 1

set_option maxRecDepth 100000 in
set_option maxHeartbeats 1600000 in
theorem odd0 {w : World} {v : Value} {a : List Int} (h : Ints w v a) (hz : chk a = 0) {L : List (List Int)} (hL : cyOut a a.length 0 (List.replicate a.length false) = some L) (hO : OrdL L) :
    Calls Tryd.prog 17 #[v] w (RB w (oddB L) 0) := by
  obtain ⟨h1, h5, hG, _⟩ := chk_good hz
  have H := Lib.hid (check h)
  rw [hz] at H
  clear hz
  obtain ⟨aa, ac, ab, off, rfl, ha, hc, hl⟩ := h
  refine callsIn_wide.1 (callsIn_of_wp_marks (n := 0) Tryd.func17 rfl trivial ?_)
  simp only [Tryd.ntmps17, List.size_toArray, List.length_cons, List.length_nil, Nat.reduceAdd, Nat.reduceSub, Array.replicate_succ, Array.replicate_zero, List.push_toArray, List.append_toArray, List.nil_append, List.cons_append]
  refine wpIn_wide.2 ?_
  go_wp2_with (first | (go_at_call 19; refine H.out.mono ?_; rintro e w1 ⟨rfl, hb1⟩) | (go_at_call 49; refine (cyclesCall _ _ _ _).mono ?_; rintro e w2 ⟨rfl, rfl⟩))
  have hBn : ((w1.alloc (.cells #[.int .i64 0] 3)).alloc (.cells #[.slice aa a.length ac] 22)).heap[w1.heap.size]? = some (.cells #[.int .i64 0] 3 (0, 0)) := (Below.heap_alloc _ _ _ (by simp)).trans (World.alloc_heap_new w1 _)
  have hBx : ((w1.alloc (.cells #[.int .i64 0] 3)).alloc (.cells #[.slice aa a.length ac] 22)).cell? ⟨w1.heap.size + 1, 0, none⟩ = some (.slice aa a.length ac) := by
    have := World.alloc_heap_new (w1.alloc (.cells #[.int .i64 0] 3)) (.cells #[.slice aa a.length ac] 22)
    rw [World.size_alloc] at this
    exact cell_of_one this
  have hbW : Below w.heap.size w ((w1.alloc (.cells #[.int .i64 0] 3)).alloc (.cells #[.slice aa a.length ac] 22)) := (hb1.alloc hb1.size _).alloc (by have := hb1.size; simp; omega) _
  have habl : ab < w.heap.size := World.block_lt_of_cell? w _ (hc 0 h1)
  obtain ⟨wL, hwL⟩ : ∃ wL, wL = (w1.alloc (.cells #[.int .i64 0] 3)).alloc (.cells #[.slice aa a.length ac] 22) := ⟨_, rfl⟩
  have hsL : wL.heap.size = w1.heap.size + 2 := by rw [hwL]; simp
  rw [← hwL] at hBn hBx hbW ⊢
  obtain ⟨Bn, hBne⟩ : ∃ Bn, Bn = w1.heap.size := ⟨_, rfl⟩
  have hs1 := hb1.size
  rw [← hBne] at hBn hBx hsL hs1 ⊢
  clear hwL hBne hb1 H
  have hcL := hc.keep hbW
  refine wpIn_wide.1 (wpIn_rf (gf := 71) (lb := #[.pointer (some ⟨Bn + 1, 0, none⟩)]) rfl (enters_of Tryd.func71 (by kernel_rfl) rfl) (cycSeq hBx ha hcL hG h5 (by omega) hL) (Below.refl _ _) (fun _ => rfl) cycR_put
    (fun pre D W => Box1 Bn D W (oddF (pre.map Prod.snd)) ∧ oddF (pre.map Prod.snd) ≤ 4 * pre.length) (fun _ _ _ _ => False) (fun pre D W W' h hs hk => ⟨Box1.stable Bn (fun pre : List Cyc => ((oddF (pre.map Prod.snd) : Nat) : Int)) pre D W W' h.1 hs hk, h.2⟩) (fun _ _ _ _ _ h _ _ => h)
    (fun k => k = Bn) (fun k hk => by rw [hk]; omega) (fun k hk => by omega) (fun k hk => by omega) ⟨⟨fun _ => Iff.rfl, hBn⟩, Nat.le_refl _⟩
    (fun x => { tmps := #[.slice aa a.length ac, undef, .bool false, .int .i64 0, .int .i64 0, .pointer (some ⟨Bn, 0, none⟩), x.1, .slice aa a.length ac, .int .i64 0, .int .i64 0, .bool false, undef, .slice aa a.length ac, .func (.func 71) #[] #[.pointer (some ⟨Bn + 1, 0, none⟩)], x.1, undef, undef, undef, undef, undef, undef, undef, undef], defers := [] }) ?assign ?body ?done ?stop)
  case assign =>
    intro l x W K hK
    gi_wp2
    exact hK
  case body =>
    rintro l pre ⟨xv, xl⟩ D W ⟨⟨hD, hbox⟩, hle⟩ hBd hOn hGr ⟨hx, r, hr⟩ hlen
    obtain ⟨_, _, o3, o4⟩ := hO _ _ _ hr
    have o3 : xl.length ≤ 5 := o3
    have o4 : 1 ≤ xl.length := o4
    have q4 : (n4 : Nat) → n4 ≤ 4 * pre.length → n4 ≤ 4000 := fun n4 h => by omega
    have hsn := Lib.hid (oddF_snoc (pre.map Prod.snd) xl)
    simp only at hx
    obtain ⟨ca, cc, rfl⟩ := hx.shape
    obtain ⟨n, hn⟩ : ∃ n, oddF (pre.map Prod.snd) = n := ⟨_, rfl⟩
    rw [hn] at hbox hle hsn
    have hle4 := q4 n hle
    clear q4
    have hcn := cell_of_one hbox
    have hfn := free_of_one hbox
    have hset := one_setCell (u := .int .i64 (↑n + (↑xl.length - 1))) hbox
    clear hn hr hO hOn hGr hBn hBx hcL hG hc ha hL
    gi_wp2
    refine ⟨D, (Only.refl D W).setCell (p := ⟨Bn, 0, none⟩) ((hD Bn).2 rfl) _, Gr.refl _ _, fun i hi => by have := hBd i hi; simpa [World.setCell] using this, ⟨hD, ?_⟩, ?_⟩
    · rw [List.map_append]
      show _ = some (Obj.cells #[.int .i64 ((oddF (List.map Prod.snd pre ++ [xl]) : Nat) : Int)] 3 (0, 0))
      rw [hsn.out, show ((n + (xl.length - 1) : Nat) : Int) = ↑n + (↑xl.length - 1) by omega]
      exact hset
    · rw [List.map_append]
      show oddF (List.map Prod.snd pre ++ [xl]) ≤ _
      rw [hsn.out, List.length_append, List.length_singleton]
      omega
  case done =>
    intro d xs D W hS hI hOn hGr hd hnd hdef
    obtain ⟨⟨hD, hbox⟩, hle⟩ := hI
    have hcn := cell_of_one hbox
    rw [hS] at hcn
    clear hbox hle
    have n0 : (0 : Int) ≤ (oddF L : Nat) := Int.natCast_nonneg _
    obtain ⟨n, hn⟩ : ∃ n : Nat, oddF L = n := ⟨_, rfl⟩
    have hB := Lib.hid (show oddB L = ((n : Int) % 2 == 1) by rw [oddB, hn])
    rw [hn] at hcn n0
    clear hn
    go_wp2
    refine ⟨by simp, .inl ⟨_, _, rfl, run_takeDeferred hdef, ?_⟩⟩
    exact ⟨_, results_tmp2 rfl _ _ _, RB.mk' hB.out.symm rfl (below_putObj (hbW.trans (hOn.below hbW.size (fun i hi => by omega))) (by omega) _)⟩
  case stop =>
    intro d c pre D W _ h
    exact h.elim

def oddP (a : List Int) : Bool := if chk a = 0 then oddB (cycL a) else false
set_option maxRecDepth 100000 in
set_option maxHeartbeats 800000 in
theorem oddCall {w : World} {v : Value} {a : List Int} (h : Ints w v a) (hC : chk a = 0 → CycOK a) : Calls Tryd.prog 17 #[v] w (RB w (oddP a) (chk a)) := by
  by_cases hz : chk a = 0
  · have h1 := odd0 h hz (hC hz).eq (hC hz).2
    rw [oddP, if_pos hz, hz]
    exact h1
  · have H := Lib.hid (check h)
    obtain ⟨E, hE⟩ : ∃ E, chk a = E := ⟨_, rfl⟩
    have hL := Lib.hid (show oddP a = false by rw [oddP, if_neg hz])
    rw [hE] at H hz ⊢
    have hz' : (E != 0) = true := by simpa using hz
    clear hz h hE hC
    refine callsIn_wide.1 (callsIn_of_wp_marks (n := 0) Tryd.func17 rfl trivial ?_)
    simp only [Tryd.ntmps17, List.size_toArray, List.length_cons, List.length_nil, Nat.reduceAdd, Nat.reduceSub, Array.replicate_succ, Array.replicate_zero, List.push_toArray, List.append_toArray, List.nil_append, List.cons_append]
    refine wpIn_wide.2 ?_
    go_wp2_with (go_at_call 19; refine H.out.mono ?_; rintro e w1 ⟨rfl, hb1⟩)
    exact ⟨_, results_tmp2 rfl _ _ _, RB.mk' hL.out.symm rfl hb1⟩
end Go.Proofs.YtpjlaaldepfnkaaDoor

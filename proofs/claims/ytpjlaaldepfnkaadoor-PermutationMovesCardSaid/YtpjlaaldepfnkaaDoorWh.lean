/- The walks of Image, Set and the reference's Set. -/
import Derived.Test.YtpjlaaldepfnkaaDoorWf
namespace Go.Proofs.YtpjlaaldepfnkaaDoor
open Go.RowKit

def imgRs (s o : Int) (k : Nat) (q : Int) : Int := if (bits BinOp.and IntKind.i64 (s / 2 ^ k) 1 == 1) = true then bits BinOp.or IntKind.i64 o (wrap64 (2 ^ q.toNat)) else o
def imgPs (s o : Int) (k : Nat) (q : Int) : Int := bits BinOp.or IntKind.i64 o (wrap64 (bits BinOp.and IntKind.i64 (s / 2 ^ k) 1 * 2 ^ q.toNat))
def imgR (a : List Int) (s : Int) (k : Nat) : Int := (List.range k).foldl (fun o j => imgRs s o j (a.getD j 0)) 0
def imgP (a : List Int) (s : Int) (k : Nat) : Int := (List.range k).foldl (fun o j => imgPs s o j (a.getD j 0)) 0
theorem imgR_succ (a : List Int) (s : Int) (k : Nat) : imgR a s (k + 1) = imgRs s (imgR a s k) k (a.getD k 0) := by simp [imgR, List.range_succ]
theorem imgP_succ (a : List Int) (s : Int) (k : Nat) : imgP a s (k + 1) = imgPs s (imgP a s k) k (a.getD k 0) := by simp [imgP, List.range_succ]

set_option maxRecDepth 100000 in
set_option maxHeartbeats 400000 in
theorem refImage {w : World} {u : Value} {a : List Int} (h : Ints w u a) (hG : Good a.length a) (h5 : a.length ≤ 5) (s : Int) (_h0 : 0 ≤ s) :
    Calls Tryd.prog 54 #[u, .int .i64 s] w fun e w' => e = .returned (.int .i64 (imgR a s a.length)) ∧ Qt w w' := by
  obtain ⟨aa, ac, ab, ao, rfl, ha, hc, hl⟩ := h
  go_enter Tryd.func54, Tryd.ntmps54
  go_wp2
  go_loopw [5, 6] (fun o i wr => ∃ (k : Nat) (x : Int), k ≤ a.length ∧ i = .int .i64 k ∧ o = .int .i64 x ∧ Hid (imgR a s k = x) ∧ Hid (Qt w wr)) (fun _ i _ => a.length - (intOf i).toNat)
  case atStart => exact ⟨0, 0, by omega, rfl, rfl, rfl, Qt.refl _⟩
  case round =>
    obtain ⟨k, x, hk, rfl, rfl, hg, hq⟩ := hrel
    by_cases hlt : k < a.length
    · obtain ⟨g1, g2⟩ := hG k hlt
      obtain rfl := ha (by omega)
      have hck := hc.qt hq.out k hlt
      have e1 := Lib.hid (imgR_succ a s k)
      obtain ⟨q, hq'⟩ : ∃ q, a.getD k 0 = q := ⟨_, rfl⟩
      rw [hq'] at hck g1 g2 e1
      clear hq' ha hc hG
      go_wp2
      · have ht := ‹(bits BinOp.and IntKind.i64 (s / 2 ^ k) 1 == 1) = true›
        go_roundw
        case rel => exact ⟨k + 1, _, by omega, by go_num, rfl, by show _ = _; rw [e1.out, hg.out, imgRs, if_pos ht], hq⟩
        case measure => simp [intOf]; omega
      · have ht := ‹(bits BinOp.and IntKind.i64 (s / 2 ^ k) 1 == 1) = false›
        go_roundw
        case rel => exact ⟨k + 1, _, by omega, by go_num, rfl, by show _ = _; rw [e1.out, hg.out, imgRs, if_neg (by rw [ht]; decide)], hq⟩
        case measure => simp [intOf]; omega
    · obtain rfl : k = a.length := by omega
      clear ha hc hG
      go_wp2
      go_ret
      exact ⟨ret_int hg.out.symm, hq.out⟩

def setE (a : List Int) (s : Int) : Int := if chk a ≠ 0 then chk a else if s < 0 ∨ wrap64 (2 ^ a.length) ≤ s then 2 else 0
def setR (a : List Int) (s : Int) : Int := if setE a s = 0 then imgR a s a.length else 0
def setP (a : List Int) (s : Int) : Int := if setE a s = 0 then imgP a s a.length else 0
/-- Two numbers. -/
def R2 (w : World) (x y : Int) (e : Ending) (w' : World) : Prop := e = .returned (.tuple #[.int .i64 x, .int .i64 y]) ∧ Below w.heap.size w w'
theorem R2.mk' {w w' : World} {x y x' y' : Int} (hx : x' = x) (hy : y' = y) (hb : Below w.heap.size w w') : R2 w x y (.returned (.tuple #[.int .i64 x', .int .i64 y'])) w' := by
  subst hx; subst hy; exact ⟨rfl, hb⟩

set_option maxRecDepth 100000 in
set_option maxHeartbeats 800000 in
theorem setCall {w : World} {u : Value} {a : List Int} (h : Ints w u a) (s : Int) : Calls Tryd.prog 22 #[u, .int .i64 s] w (R2 w (setP a s) (setE a s)) := by
  have H := Lib.hid (check h)
  by_cases hz : chk a = 0
  · obtain ⟨h1, h5, hG, _⟩ := chk_good hz
    rw [hz] at H
    by_cases hs : s < 0
    · have hvE := Lib.hid (show setE a s = 2 by rw [setE, if_neg (fun h => h hz), if_pos (.inl hs)])
      have hL := Lib.hid (show setP a s = 0 by rw [setP, hvE.out]; rfl)
      obtain ⟨aa, ac, ab, ao, rfl, ha, hc, hl⟩ := h
      clear ha hc hz hG
      go_enter Tryd.func22, Tryd.ntmps22
      go_wp2_with (go_at_call 19; refine H.out.mono ?_; rintro e w1 ⟨rfl, hq⟩)
      go_ret2
      exact R2.mk' hL.out.symm hvE.out.symm hq
    · have hs' : decide (s < 0) = false := by simpa using hs
      by_cases hs2 : wrap64 (2 ^ a.length) ≤ s
      · have hvE := Lib.hid (show setE a s = 2 by rw [setE, if_neg (fun h => h hz), if_pos (.inr hs2)])
        have hL := Lib.hid (show setP a s = 0 by rw [setP, hvE.out]; rfl)
        obtain ⟨aa, ac, ab, ao, rfl, ha, hc, hl⟩ := h
        clear ha hc hz hG
        go_enter Tryd.func22, Tryd.ntmps22
        go_wp2_with (go_at_call 19; refine H.out.mono ?_; rintro e w1 ⟨rfl, hq⟩)
        go_ret2
        exact R2.mk' hL.out.symm hvE.out.symm hq
      · have hvE := Lib.hid (show setE a s = 0 by rw [setE, if_neg (fun h => h hz), if_neg (by omega)])
        have hL := Lib.hid (show setP a s = imgP a s a.length by rw [setP, if_pos hvE.out])
        obtain ⟨aa, ac, ab, ao, rfl, ha, hc, hl⟩ := h
        clear hz
        go_enter Tryd.func22, Tryd.ntmps22
        go_wp2_with (go_at_call 19; refine H.out.mono ?_; rintro e w1 ⟨rfl, hq⟩)
        go_loopw [7, 26] (fun o i wr => ∃ (k : Nat) (x : Int), k ≤ a.length ∧ i = .int .i64 k ∧ o = .int .i64 x ∧ Hid (imgP a s k = x) ∧ Hid (Below w.heap.size w wr)) (fun _ i _ => a.length - (intOf i).toNat)
        case atStart => exact ⟨0, 0, by omega, rfl, rfl, rfl, hq⟩
        case round =>
          clear hq
          obtain ⟨k, x, hk, rfl, rfl, hg, hq⟩ := hrel
          by_cases hlt : k < a.length
          · obtain ⟨g1, g2⟩ := hG k hlt
            obtain rfl := ha (by omega)
            have hck := hc.keep hq.out k hlt
            have e1 := Lib.hid (imgP_succ a s k)
            obtain ⟨q, hq'⟩ : ∃ q, a.getD k 0 = q := ⟨_, rfl⟩
            rw [hq'] at hck g1 g2 e1
            clear hq' ha hc hG
            go_wp2
            go_roundw
            case rel => exact ⟨k + 1, _, by omega, by go_num, rfl, by show _ = _; rw [e1.out, hg.out, imgPs], hq⟩
            case measure => simp [intOf]; omega
          · obtain rfl : k = a.length := by omega
            clear ha hc hG
            go_wp2
            go_ret2
            exact R2.mk' (by rw [hL.out, hg.out]) hvE.out.symm hq.out
  · obtain ⟨E, hE⟩ : ∃ E, chk a = E := ⟨_, rfl⟩
    have hvE := Lib.hid (show setE a s = E by rw [setE, if_pos hz, hE])
    have hL := Lib.hid (show setP a s = 0 by rw [setP, hvE.out, ← hE, if_neg hz])
    rw [hE] at H hz
    have hz' : (E != 0) = true := by simpa using hz
    clear hz h hE
    go_enter Tryd.func22, Tryd.ntmps22
    go_wp2_with (go_at_call 19; refine H.out.mono ?_; rintro e w1 ⟨rfl, hq⟩)
    go_ret2
    exact R2.mk' hL.out.symm hvE.out.symm hq

set_option maxRecDepth 100000 in
set_option maxHeartbeats 800000 in
theorem refSet {w : World} {u : Value} {a : List Int} (h : Ints w u a) (s : Int) : Calls Tryd.prog 23 #[u, .int .i64 s] w (R2 w (setR a s) (setE a s)) := by
  have H := Lib.hid (refCheck h)
  by_cases hz : chk a = 0
  · obtain ⟨h1, h5, hG, _⟩ := chk_good hz
    rw [hz] at H
    by_cases hs : s < 0
    · have hvE := Lib.hid (show setE a s = 2 by rw [setE, if_neg (fun h => h hz), if_pos (.inl hs)])
      have hL := Lib.hid (show setR a s = 0 by rw [setR, hvE.out]; rfl)
      obtain ⟨aa, ac, ab, ao, rfl, ha, hc, hl⟩ := h
      clear ha hc hz hG
      go_enter Tryd.func23, Tryd.ntmps23
      go_wp2_with (go_at_call 20; refine H.out.mono ?_; rintro e w1 ⟨rfl, hq⟩)
      go_ret2
      exact R2.mk' hL.out.symm hvE.out.symm hq.below
    · have hs' : decide (s < 0) = false := by simpa using hs
      by_cases hs2 : wrap64 (2 ^ a.length) ≤ s
      · have hvE := Lib.hid (show setE a s = 2 by rw [setE, if_neg (fun h => h hz), if_pos (.inr hs2)])
        have hL := Lib.hid (show setR a s = 0 by rw [setR, hvE.out]; rfl)
        obtain ⟨aa, ac, ab, ao, rfl, ha, hc, hl⟩ := h
        clear ha hc hz hG
        go_enter Tryd.func23, Tryd.ntmps23
        go_wp2_with (go_at_call 20; refine H.out.mono ?_; rintro e w1 ⟨rfl, hq⟩)
        go_ret2
        exact R2.mk' hL.out.symm hvE.out.symm hq.below
      · have hvE := Lib.hid (show setE a s = 0 by rw [setE, if_neg (fun h => h hz), if_neg (by omega)])
        have hL := Lib.hid (show setR a s = imgR a s a.length by rw [setR, if_pos hvE.out])
        have HI := fun (w1 : World) (hq : Qt w w1) => refImage (h.qt hq) hG h5 s (by omega)
        replace HI := Lib.hid HI
        obtain ⟨aa, ac, ab, ao, rfl, ha, hc, hl⟩ := h
        clear hz
        go_enter Tryd.func23, Tryd.ntmps23
        go_wp2_with (first | (go_at_call 20; refine H.out.mono ?_; rintro e w1 ⟨rfl, hq⟩) | (go_at_call 54; refine (HI.out _ hq).mono ?_; rintro e w2 ⟨rfl, hq2⟩))
        go_ret2
        exact R2.mk' hL.out.symm hvE.out.symm (hq.trans hq2).below
  · obtain ⟨E, hE⟩ : ∃ E, chk a = E := ⟨_, rfl⟩
    have hvE := Lib.hid (show setE a s = E by rw [setE, if_pos hz, hE])
    have hL := Lib.hid (show setR a s = 0 by rw [setR, hvE.out, ← hE, if_neg hz])
    rw [hE] at H hz
    have hz' : (E != 0) = true := by simpa using hz
    clear hz h hE
    go_enter Tryd.func23, Tryd.ntmps23
    go_wp2_with (go_at_call 20; refine H.out.mono ?_; rintro e w1 ⟨rfl, hq⟩)
    go_ret2
    exact R2.mk' hL.out.symm hvE.out.symm hq.below
end Go.Proofs.YtpjlaaldepfnkaaDoor

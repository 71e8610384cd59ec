/- The walks of Back, Inverse, Moved, Vector and their callers. -/
import Derived.Test.YtpjlaaldepfnkaaDoorWa
import Derived.Test.YtpjlaaldepfnkaaDoorWd
import Derived.Test.YtpjlaaldepfnkaaDoorWe
import Derived.StillTailTactics
namespace Go.Proofs.YtpjlaaldepfnkaaDoor
open Go.RowKit

theorem chkGo_good {n : Nat} : ∀ {r seen : List Int}, chkGo n seen r = 0 → (∀ x ∈ r, 0 ≤ x ∧ x < (n : Int)) ∧ (∀ x ∈ r, x ∉ seen) ∧ r.Nodup
  | [], _, _ => by simp
  | x :: r, seen, h => by
    unfold chkGo at h
    by_cases h1 : x < 0 ∨ (n : Int) ≤ x
    · rw [if_pos h1] at h; cases h
    · rw [if_neg h1] at h
      by_cases h2 : x ∈ seen
      · rw [if_pos h2] at h; cases h
      · rw [if_neg h2] at h
        obtain ⟨a, b, c⟩ := chkGo_good h
        refine ⟨?_, ?_, ?_⟩
        · intro y hy
          rcases List.mem_cons.1 hy with rfl | hy
          · omega
          · exact a y hy
        · intro y hy
          rcases List.mem_cons.1 hy with rfl | hy
          · exact h2
          · exact fun h => b y hy (List.mem_append_left _ h)
        · rw [List.nodup_cons]
          exact ⟨fun hm => b x hm (by simp), c⟩
theorem chk_good {xs : List Int} (h : chk xs = 0) : 1 ≤ xs.length ∧ xs.length ≤ 5 ∧ Good xs.length xs ∧ xs.Nodup := by
  unfold chk at h
  by_cases h1 : xs.length < 1 ∨ 5 < xs.length
  · rw [if_pos h1] at h; cases h
  · rw [if_neg h1] at h
    obtain ⟨a, _, c⟩ := chkGo_good h
    refine ⟨by omega, by omega, fun j hj => ?_, c⟩
    rw [getD_eq hj]
    exact a _ (List.getElem_mem hj)

def movedL (a v : List Int) : List Int := scat a v (List.replicate a.length 0) a.length
def backL (a : List Int) : List Int := movedL a (oneL a.length)

set_option maxHeartbeats 400000 in
theorem refBack {w : World} {u : Value} {a : List Int} (h : Ints w u a) (hG : Good a.length a) (hn : a.length ≤ 1000000) :
    Calls Tryd.prog 48 #[u] w fun e w' => ∃ r, e = .returned r ∧ OI w' w.heap.size r a.length (backL a) ∧ Below w.heap.size w w' := by
  obtain ⟨aa, ac, ab, ao, rfl, ha, hca, hla⟩ := h
  go_enter Tryd.func48, Tryd.ntmps48
  go_wp2_with (at_make; refine wpMakeI rfl _ _ rfl a.length rfl rfl (by omega) (Nat.le_refl _) ?_; intro w1 ho _ hb)
  obtain ⟨g, hg⟩ : ∃ g, g = w.heap.size := ⟨_, rfl⟩
  rw [← hg] at ho ⊢
  have hgl : w.heap.size ≤ g := by omega
  replace hg := Lib.hid hg
  go_loopw [4] (fun i wr => ∃ k : Nat, k ≤ a.length ∧ i = .int .i64 k ∧ OI wr g (.slice (some ⟨g, 0, none⟩) a.length a.length) a.length (scat a (oneL a.length) (List.replicate a.length 0) k) ∧ Below w.heap.size w wr) (fun i _ => a.length - (intOf i).toNat)
  case atStart => exact ⟨0, by omega, rfl, ho, hb⟩
  case round =>
    clear ho hb
    obtain ⟨k, hk, rfl, ho, hb⟩ := hrel
    by_cases hlt : k < a.length
    · obtain ⟨g1, g2⟩ := hG k hlt
      obtain rfl := ha (by omega)
      have hck := hca.keep hb k hlt
      have e1 := Lib.hid (scat_succ a (oneL a.length) (List.replicate a.length 0) k)
      have e2 := Lib.hid (oneL_getD hlt)
      obtain ⟨q, hq⟩ : ∃ q, a.getD k 0 = q := ⟨_, rfl⟩
      rw [hq] at hck g1 g2 e1
      clear hq ha hca hG
      have hcq := ho.cell (j := q.toNat) (by omega)
      have hfq := ho.free q.toNat
      have hst := ho.store q.toNat k
      go_wp2
      go_roundw
      case rel => exact ⟨k + 1, by omega, by go_num, by rw [e1.out, e2.out]; exact hst.1, hb.setCell (by simpa using hgl) _⟩
      case measure => simp [intOf]; omega
    · obtain rfl : k = a.length := by omega
      clear ha hca hG
      go_wp2
      go_ret
      exact ⟨_, rfl, ho.base hgl, hb⟩

set_option maxRecDepth 100000 in
set_option maxHeartbeats 800000 in
theorem refMoved {w : World} {u v : Value} {a b : List Int} (h : Ints w u a) (h' : Ints w v b) (hG : Good a.length a) (hab : a.length = b.length) (hn : a.length ≤ 1000000) :
    Calls Tryd.prog 55 #[u, v] w fun e w' => ∃ r, e = .returned r ∧ OI w' w.heap.size r a.length (movedL a b) ∧ Below w.heap.size w w' := by
  obtain ⟨aa, ac, ab, ao, rfl, ha, hca, hla⟩ := h
  obtain ⟨ba, bc, bb, bo, rfl, hb', hcb, hlb⟩ := h'
  replace hab := Lib.hid hab
  go_enter Tryd.func55, Tryd.ntmps55
  go_wp2_with (at_make; refine wpMakeI rfl _ _ rfl a.length rfl rfl (by omega) (Nat.le_refl _) ?_; intro w1 ho _ hb)
  obtain ⟨g, hg⟩ : ∃ g, g = w.heap.size := ⟨_, rfl⟩
  rw [← hg] at ho ⊢
  have hgl : w.heap.size ≤ g := by omega
  replace hg := Lib.hid hg
  go_loopw [6] (fun i wr => ∃ k : Nat, k ≤ a.length ∧ i = .int .i64 k ∧ OI wr g (.slice (some ⟨g, 0, none⟩) a.length a.length) a.length (scat a b (List.replicate a.length 0) k) ∧ Below w.heap.size w wr) (fun i _ => a.length - (intOf i).toNat)
  case atStart => exact ⟨0, by omega, rfl, ho, hb⟩
  case round =>
    clear ho hb
    obtain ⟨k, hk, rfl, ho, hb⟩ := hrel
    by_cases hlt : k < a.length
    · obtain ⟨g1, g2⟩ := hG k hlt
      have hlt' : k < b.length := by have := hab.out; omega
      obtain rfl := ha (by omega)
      obtain rfl := hb' (by omega)
      have hck := hca.keep hb k hlt
      have hck' := hcb.keep hb k hlt'
      have e1 := Lib.hid (scat_succ a b (List.replicate a.length 0) k)
      obtain ⟨q, hq⟩ : ∃ q, a.getD k 0 = q := ⟨_, rfl⟩
      obtain ⟨y, hy⟩ : ∃ y, b.getD k 0 = y := ⟨_, rfl⟩
      rw [hq] at hck g1 g2 e1
      rw [hy] at hck' e1
      clear hq hy ha hca hb' hcb hG
      have hcq := ho.cell (j := q.toNat) (by omega)
      have hfq := ho.free q.toNat
      have hst := ho.store q.toNat y
      go_wp2
      go_still_tail 10, (by kernel_rfl)
      go_wp2
      go_roundw
      case rel => exact ⟨k + 1, by omega, by go_num, by rw [e1.out]; exact hst.1, (hb.setCell (p := ⟨g, q.toNat, none⟩) (by simpa using hgl) _).drew⟩
      case measure => simp [intOf]; omega
    · obtain rfl : k = a.length := by omega
      clear ha hca hb' hcb hG
      go_wp2
      go_ret
      exact ⟨_, rfl, ho.base hgl, hb⟩

def invL (a : List Int) : List Int := if chk a = 0 then backL a else []
def vecE (a v : List Int) : Int := if chk a ≠ 0 then chk a else if v.length ≠ a.length then 15 else 0
def vecL (a v : List Int) : List Int := if vecE a v = 0 then movedL a v else []
def compE (a b : List Int) : Int := if chk a ≠ 0 then chk a else if chk b ≠ 0 then chk b else if a.length ≠ b.length then 22 else 0
def compL (a b : List Int) : List Int := if compE a b = 0 then timesL a b else []
def idL (n : Int) : List Int := if numE n = 0 then oneL n.toNat else []
/-- A result: fresh ints, and an error. -/
def RI (w : World) (l : List Int) (E : Int) (e : Ending) (w' : World) : Prop :=
  ∃ r, e = .returned (.tuple #[r, .int .i64 E]) ∧ OI w' 0 r l.length l ∧ Below w.heap.size w w'
theorem RI.none {w w' : World} {l : List Int} {E E' : Int} (hl : l = []) (hE : E' = E) (hb : Below w.heap.size w w') :
    RI w l E (.returned (.tuple #[.slice none 0 0, .int .i64 E'])) w' := by
  subst hl; subst hE; exact ⟨_, rfl, OI.nil _ _, hb⟩
theorem RI.some {w w' : World} {l l' : List Int} {E : Int} {r : Value} {n B : Nat} (hl : l = l') (hE : E = 0) (ho : OI w' B r n l') (_hB : w.heap.size ≤ B) (hb : Below w.heap.size w w') :
    RI w l E (.returned (.tuple #[r, .int .i64 0])) w' := by
  subst hl; subst hE; obtain rfl := ho.length; exact ⟨_, rfl, ho.base (Nat.zero_le _), hb⟩

set_option maxRecDepth 100000 in
set_option maxHeartbeats 800000 in
theorem inverse {w : World} {u : Value} {a : List Int} (h : Ints w u a) : Calls Tryd.prog 13 #[u] w (RI w (invL a) (chk a)) := by
  have H := Lib.hid (check h)
  by_cases hz : chk a = 0
  · obtain ⟨h1, h5, hG, _⟩ := chk_good hz
    have hL := Lib.hid (show invL a = backL a by rw [invL, if_pos hz])
    rw [hz] at H
    replace hz := Lib.hid hz
    obtain ⟨aa, ac, ab, ao, rfl, ha, hca, hla⟩ := h
    obtain rfl := ha (by omega)
    clear ha
    go_enter Tryd.func13, Tryd.ntmps13
    go_wp2_with (first | (go_at_call 19; refine H.out.mono ?_; rintro e w1 ⟨rfl, hb1⟩) | (at_make; refine wpMakeI rfl _ _ rfl a.length rfl rfl (by omega) (Nat.le_refl _) ?_; intro w2 ho _ hb))
    have hb0 := btt hb1 hb
    have hg1 := hb1.size
    clear hb1 hb
    obtain ⟨g, hg⟩ : ∃ g, g = w1.heap.size := ⟨_, rfl⟩
    rw [← hg] at ho ⊢
    have hgl : w.heap.size ≤ g := by omega
    clear hg hg1
    go_loopw [18] (fun i wr => ∃ k : Nat, k ≤ a.length ∧ i = .int .i64 k ∧ OI wr g (.slice (some ⟨g, 0, none⟩) a.length a.length) a.length (scat a (oneL a.length) (List.replicate a.length 0) k) ∧ Below w.heap.size w wr) (fun i _ => a.length - (intOf i).toNat)
    case atStart => exact ⟨0, by omega, rfl, ho, hb0⟩
    case round =>
      clear ho hb0
      obtain ⟨k, hk, rfl, ho, hb⟩ := hrel
      by_cases hlt : k < a.length
      · obtain ⟨g1, g2⟩ := hG k hlt
        have hck := hca.keep hb k hlt
        have e1 := Lib.hid (scat_succ a (oneL a.length) (List.replicate a.length 0) k)
        have e2 := Lib.hid (oneL_getD hlt)
        obtain ⟨q, hq⟩ : ∃ q, a.getD k 0 = q := ⟨_, rfl⟩
        rw [hq] at hck g1 g2 e1
        clear hq hca hG
        have hcq := ho.cell (j := q.toNat) (by omega)
        have hfq := ho.free q.toNat
        have hst := ho.store q.toNat k
        go_wp2
        go_roundw
        case rel => exact ⟨k + 1, by omega, by go_num, by rw [e1.out, e2.out]; exact hst.1, hb.setCell (by simpa using hgl) _⟩
        case measure => simp [intOf]; omega
      · obtain rfl : k = a.length := by omega
        clear hca hG
        go_wp2
        go_ret2
        exact RI.some hL.out hz.out ho hgl hb
  · have hL := Lib.hid (show invL a = [] by rw [invL, if_neg hz])
    obtain ⟨E, hE⟩ : ∃ E, chk a = E := ⟨_, rfl⟩
    rw [hE] at H hz
    have hz' : (E != 0) = true := by simpa using hz
    replace hE := Lib.hid hE
    clear hz h
    go_enter Tryd.func13, Tryd.ntmps13
    go_wp2_with (go_at_call 19; refine H.out.mono ?_; rintro e w1 ⟨rfl, hb1⟩)
    go_ret2
    exact RI.none hL.out hE.out.symm hb1

set_option maxRecDepth 100000 in
set_option maxHeartbeats 800000 in
theorem refInverse {w : World} {u : Value} {a : List Int} (h : Ints w u a) : Calls Tryd.prog 14 #[u] w (RI w (invL a) (chk a)) := by
  have H := Lib.hid (refCheck h)
  by_cases hz : chk a = 0
  · obtain ⟨h1, h5, hG, _⟩ := chk_good hz
    have hL := Lib.hid (show invL a = backL a by rw [invL, if_pos hz])
    rw [hz] at H
    replace hz := Lib.hid hz
    have H2 := fun (w1 : World) (hq : Qt w w1) => refBack (h.qt hq) hG (by omega)
    replace H2 := Lib.hid H2
    clear h hG
    go_enter Tryd.func14, Tryd.ntmps14
    go_wp2_with fail
    refine H.out.mono ?_; rintro e w1 ⟨rfl, hq⟩
    replace H2 := Lib.hid (H2.out _ hq)
    go_wp2_with fail
    refine H2.out.mono ?_; rintro e w2 ⟨r, rfl, ho, hb⟩
    go_wp2
    go_ret2
    exact RI.some hL.out hz.out ho hq.below.size (btt hq.below hb)
  · have hL := Lib.hid (show invL a = [] by rw [invL, if_neg hz])
    obtain ⟨E, hE⟩ : ∃ E, chk a = E := ⟨_, rfl⟩
    rw [hE] at H hz
    have hz' : (E != 0) = true := by simpa using hz
    replace hE := Lib.hid hE
    clear hz h
    go_enter Tryd.func14, Tryd.ntmps14
    go_wp2_with (go_at_call 20; refine H.out.mono ?_; rintro e w1 ⟨rfl, hb1⟩)
    go_ret2
    exact RI.none hL.out hE.out.symm hb1.below
end Go.Proofs.YtpjlaaldepfnkaaDoor

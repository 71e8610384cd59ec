/- The walk of permutation.Check. -/
import Derived.Test.YtpjlaaldepfnkaaDoorWb
import Derived.Test.YtpjlaaldepfnkaaDoorOwn
namespace Go.Proofs.YtpjlaaldepfnkaaDoor
open Go.RowKit

/-- A block of flags. -/
def Fl (w : World) (B n : Nat) (f : Nat → Bool) : Prop := ∃ cur E, w.heap[B]? = some (.cells cur E (0, 0)) ∧ cur.size = n ∧ ∀ p, p < n → cur[p]? = some (.bool (f p))
theorem Fl.cell {w : World} {B n : Nat} {f : Nat → Bool} (h : Fl w B n f) {p : Nat} (hp : p < n) : w.cell? ⟨B, p, none⟩ = some (.bool (f p)) := by
  obtain ⟨cur, E, h1, h2, h3⟩ := h
  rw [cell_of_row w B p cur E (0, 0) h1]; exact h3 p hp
theorem Fl.free {w : World} {B n : Nat} {f : Nat → Bool} (h : Fl w B n f) (p : Nat) : w.frozen? ⟨B, p, none⟩ = false := by
  obtain ⟨cur, E, h1, h2, h3⟩ := h
  exact frozen_of_row w B p cur E h1
theorem Fl.set {w : World} {B n : Nat} {f f' : Nat → Bool} (h : Fl w B n f) (p : Nat) (b : Bool) (hf : ∀ q, q < n → f' q = if q = p then b else f q) :
    Fl (w.setCell ⟨B, p, none⟩ (.bool b)) B n f' := by
  obtain ⟨cur, E, h1, h2, h3⟩ := h
  refine ⟨cur.setIfInBounds p (.bool b), E, heap_setCell_same w B p cur E _ h1, by simpa using h2, fun q hq => ?_⟩
  rw [hf q hq, Array.getElem?_setIfInBounds]
  by_cases e : p = q
  · subst e; rw [if_pos rfl, if_pos (by omega), if_pos rfl]
  · rw [if_neg e, if_neg (fun h => e h.symm)]; exact h3 q hq
theorem Fl.keep {w w' : World} {B n : Nat} {f : Nat → Bool} (h : Fl w B n f) (hb : w'.heap[B]? = w.heap[B]?) : Fl w' B n f := by
  obtain ⟨cur, E, h1, h2⟩ := h; exact ⟨cur, E, hb.trans h1, h2⟩
theorem Fl.new {w : World} {n : Nat} {E : TypeId} {cur : Array Value} (h2 : cur.size = n) {f : Nat → Bool} (h3 : ∀ p, p < n → cur[p]? = some (.bool (f p))) :
    Fl (w.alloc (.cells cur E)) w.heap.size n f := ⟨cur, E, heap_alloc_new w _, h2, h3⟩

theorem chk_step1 {xs : List Int} {k : Nat} (h : k < xs.length) {x : Int} (hx : xs.getD k 0 = x) (hb : x < 0 ∨ (xs.length : Int) ≤ x) : chkGo xs.length (xs.take k) (xs.drop k) = 2 := by
  rw [chkGo_step h, hx, if_pos hb]
theorem chk_step2 {xs : List Int} {k : Nat} (h : k < xs.length) {x : Int} (hx : xs.getD k 0 = x) (hb : ¬ (x < 0 ∨ (xs.length : Int) ≤ x)) (hm : decide (((x.toNat : Nat) : Int) ∈ xs.take k) = true) : chkGo xs.length (xs.take k) (xs.drop k) = 7 := by
  rw [chkGo_step h, hx, if_neg hb, if_pos]
  rw [show ((x.toNat : Nat) : Int) = x by omega] at hm
  exact of_decide_eq_true hm
theorem chk_step3 {xs : List Int} {k : Nat} (h : k < xs.length) {x : Int} (hx : xs.getD k 0 = x) (hb : ¬ (x < 0 ∨ (xs.length : Int) ≤ x)) (hm : decide (((x.toNat : Nat) : Int) ∈ xs.take k) = false) :
    chkGo xs.length (xs.take k) (xs.drop k) = chkGo xs.length (xs.take (k + 1)) (xs.drop (k + 1)) := by
  rw [chkGo_step h, hx, if_neg hb, if_neg]
  rw [show ((x.toNat : Nat) : Int) = x by omega] at hm
  exact of_decide_eq_false hm

set_option maxHeartbeats 400000 in
theorem check0 {w : World} {v : Value} {xs : List Int} (h : Ints w v xs) (h0 : 0 < xs.length) (h5 : xs.length ≤ 5) :
    Calls Tryd.prog 19 #[v] w fun e w' => e = .returned (.int .i64 (chk xs)) ∧ Below w.heap.size w w' := by
  obtain ⟨a, c, b, off, rfl, ha, hc, hl⟩ := h
  obtain rfl := ha h0
  clear ha
  have hE : numE (xs.length : Int) = 0 := by unfold numE; rw [if_neg (by omega)]
  have hchk := Lib.hid (show chk xs = chkGo xs.length [] xs by rw [chk, if_neg (by omega)])
  have H := Lib.hid (number (xs.length : Int))
  rw [hE] at H
  clear hE
  go_enter Tryd.func19, Tryd.ntmps19
  go_wp2_with (go_at_call 53; refine (H.out _).mono ?_; rintro e w' ⟨rfl, rfl⟩)
  have hfl : Fl (w.alloc (Obj.cells #[Value.bool false, Value.bool false, Value.bool false, Value.bool false, Value.bool false] 87)) w.heap.size 5 (fun p => decide ((p : Int) ∈ xs.take 0)) :=
    Fl.new rfl (by intro p hp; match p, hp with | 0, _ => simp | 1, _ => simp | 2, _ => simp | 3, _ => simp | 4, _ => simp)
  have hbl : Below w.heap.size w (w.alloc (Obj.cells #[Value.bool false, Value.bool false, Value.bool false, Value.bool false, Value.bool false] 87)) := (Below.refl _ _).alloc (Nat.le_refl _) _
  obtain ⟨B, hB⟩ : ∃ B, B = w.heap.size := ⟨_, rfl⟩
  rw [← hB] at hfl ⊢
  have hBl : w.heap.size ≤ B := by omega
  replace hB := Lib.hid hB
  obtain ⟨w1, hw1⟩ : ∃ w1, w1 = w.alloc (Obj.cells #[Value.bool false, Value.bool false, Value.bool false, Value.bool false, Value.bool false] 87) := ⟨_, rfl⟩
  rw [← hw1] at hfl hbl ⊢
  clear hw1
  go_loopw [15] (fun i wr => ∃ k : Nat, k ≤ xs.length ∧ i = .int .i64 k ∧ Hid (chkGo xs.length (xs.take k) (xs.drop k) = chk xs) ∧ Fl wr B 5 (fun p => decide ((p : Int) ∈ xs.take k)) ∧ Below w.heap.size w wr) (fun i _ => xs.length - (intOf i).toNat)
  case atStart => exact ⟨0, by omega, rfl, hchk.out.symm, hfl, hbl⟩
  case round =>
    clear hfl hbl
    obtain ⟨k, hk, rfl, hg, hf, hb⟩ := hrel
    by_cases hlt : k < xs.length
    · have hck := hc.keep hb k hlt
      clear hc
      obtain ⟨x, hx⟩ : ∃ x, xs.getD k 0 = x := ⟨_, rfl⟩
      rw [hx] at hck
      replace hx := Lib.hid hx
      by_cases hbad : x < 0 ∨ (xs.length : Int) ≤ x
      · have hr := Lib.hid (chk_step1 hlt hx.out hbad)
        clear hf
        by_cases hneg : x < 0
        · go_wp2
          go_ret
          exact ⟨ret_int (by rw [← hg.out, hr.out]), hb⟩
        · have hneg' : decide (x < 0) = false := by simpa using hneg
          have hbad' : decide ((xs.length : Int) ≤ x) = true := by simp; omega
          go_wp2
          go_ret
          exact ⟨ret_int (by rw [← hg.out, hr.out]), hb⟩
      · have hx0 : 0 ≤ x := by omega
        have hxl : x < xs.length := by omega
        have hneg' : decide (x < 0) = false := by simp; omega
        have hbad' : decide ((xs.length : Int) ≤ x) = false := by simp; omega
        have hcs := hf.cell (p := x.toNat) (by omega)
        have hfs := hf.free x.toNat
        obtain ⟨s, hs⟩ : ∃ s, decide (((x.toNat : Nat) : Int) ∈ xs.take k) = s := ⟨_, rfl⟩
        simp only [hs] at hcs
        cases s with
        | true =>
          have hr := Lib.hid (chk_step2 hlt hx.out hbad hs)
          clear hs hbad
          go_wp2
          go_ret
          exact ⟨ret_int (by rw [← hg.out, hr.out]), hb⟩
        | false =>
          have hr := Lib.hid (chk_step3 hlt hx.out hbad hs)
          have hset := hf.set (f' := fun p => decide ((p : Int) ∈ xs.take (k + 1))) x.toNat true (by
            intro q hq
            rw [take_snoc hlt 0, hx.out]
            by_cases e : q = x.toNat
            · subst e; rw [if_pos rfl]; simp; right; omega
            · rw [if_neg e]
              rw [decide_eq_decide, List.mem_append, List.mem_singleton]
              constructor
              · rintro (h | h)
                · exact h
                · exfalso; omega
              · exact .inl)
          clear hs hbad hf
          go_wp2
          go_roundw
          case rel => exact ⟨k + 1, by omega, by go_num, by show _ = _; rw [← hg.out, hr.out], hset, hb.setCell (by simpa using hBl) _⟩
          case measure => simp [intOf]; omega
    · have hst := Lib.hid (chkGo_end hlt)
      clear hc hf
      go_wp2
      go_ret
      exact ⟨ret_int (by rw [← hg.out, hst.out]), hb⟩

set_option maxHeartbeats 400000 in
theorem check {w : World} {v : Value} {xs : List Int} (h : Ints w v xs) :
    Calls Tryd.prog 19 #[v] w fun e w' => e = .returned (.int .i64 (chk xs)) ∧ Below w.heap.size w w' := by
  by_cases h15 : 0 < xs.length ∧ xs.length ≤ 5
  · exact check0 h h15.1 h15.2
  · obtain ⟨a, c, b, off, rfl, ha, hc, hl⟩ := h
    clear ha hc
    have hE : numE (xs.length : Int) = 2 := by unfold numE; rw [if_pos (by omega)]
    have hchk := Lib.hid (show chk xs = 2 by rw [chk, if_pos (by omega)])
    have H := Lib.hid (number (xs.length : Int))
    rw [hE] at H
    clear hE
    go_enter Tryd.func19, Tryd.ntmps19
    go_wp2_with (go_at_call 53; refine (H.out _).mono ?_; rintro e w' ⟨rfl, rfl⟩)
    go_ret
    exact ⟨ret_int hchk.out.symm, Below.refl _ _⟩
end Go.Proofs.YtpjlaaldepfnkaaDoor

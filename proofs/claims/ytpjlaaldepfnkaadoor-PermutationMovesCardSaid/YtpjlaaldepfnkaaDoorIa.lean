/- The iterator over the cycles of a permutation. -/
import Derived.Test.YtpjlaaldepfnkaaDoorIt
import Derived.Test.YtpjlaaldepfnkaaDoorWf
import Derived.Sort.LoopGhostIn
import Derived.Deep.LoopGhost
import Derived.OwnWalkIn
import Derived.TacticsInMore
import Derived.LoopNIn
import Derived.LoopIn
namespace Go.Proofs.YtpjlaaldepfnkaaDoor
open Go.RowKit

theorem elemBool : ElemOK Tryd.prog 103 4 (.bool false) 1 := ⟨by kernel_rfl, by kernel_rfl, rfl⟩
/-- A row of flags. -/
def OB (w : World) (B : Nat) (v : Value) (n : Nat) (s : List Bool) : Prop := w.ownsRow B 4 1 v n (s.map Value.bool)
theorem OB.length {w : World} {B : Nat} {v : Value} {n : Nat} {s : List Bool} (h : OB w B v n s) : s.length = n := by have := h.1; simpa using this
theorem OB.keep {w w' : World} {B : Nat} {v : Value} {n : Nat} {s : List Bool} (h : OB w B v n s) (hb : Below w.heap.size w w') : OB w' B v n s := ownsRow_keep h hb
theorem OB.cell {w : World} {B g n cap : Nat} {s : List Bool} (h : OB w B (.slice (some ⟨g, 0, none⟩) n cap) n s) {j : Nat} (hj : j < n) : w.cell? ⟨g, j, none⟩ = some (.bool (s.getD j false)) := by
  have hl := h.length
  rw [World.ownsRow.cellAt h j (by omega)]
  simp [show j < s.length by omega]
theorem OB.free {w : World} {B g n cap : Nat} {s : List Bool} (h : OB w B (.slice (some ⟨g, 0, none⟩) n cap) n s) (j : Nat) : w.frozen? ⟨g, j, none⟩ = false := World.ownsRow.frozenAt h j
theorem OB.store {w : World} {B g n cap : Nat} {s : List Bool} (h : OB w B (.slice (some ⟨g, 0, none⟩) n cap) n s) (j : Nat) (y : Bool) :
    OB (w.setCell ⟨g, j, none⟩ (.bool y)) B (.slice (some ⟨g, 0, none⟩) n cap) n (s.set j y) ∧ w.grownBy (w.setCell ⟨g, j, none⟩ (.bool y)) (some g) := by
  have := World.ownsRow.stored h j (.bool y)
  unfold OB
  rw [List.map_set]
  exact this
/-- A row of ints is no row of flags. -/
theorem OI.otherB {w w' : World} {B B' g n k cap : Nat} {u : Value} {xs : List Int} {s : List Bool} (h : OI w B u n xs) (ho : OB w B' (.slice (some ⟨g, 0, none⟩) k cap) k s) (hg : w.grownBy w' (some g)) : OI w' B u n xs := by
  refine ⟨h.1, ?_⟩
  rcases h.2 with h' | ⟨b, cap', cur, h1, h2, h3, h4⟩
  · exact .inl h'
  · refine .inr ⟨b, cap', cur, h1, h2, (hg.block b (Array.getElem?_eq_some_iff.1 h3).1 ?_).trans h3, h4⟩
    intro e
    simp only [Option.some.injEq] at e
    subst e
    rcases ho.2 with ⟨h5, _⟩ | ⟨g', cap2, cur', h5, _, h6, _⟩
    · cases h5
    · simp only [Value.slice.injEq, Option.some.injEq, Addr.mk.injEq] at h5
      rw [← h5.1.1, h3] at h6
      simp at h6
theorem OB.otherI {w w' : World} {B B' : Nat} {u v : Value} {n k : Nat} {ys : List Int} {s : List Bool} (h : OB w B u n s) (ho : OI w B' v k ys) (hg : w.grownBy w' v.ownBlock) : OB w' B u n s := by
  refine ⟨h.1, ?_⟩
  rcases h.2 with h' | ⟨b, cap', cur, h1, h2, h3, h4⟩
  · exact .inl h'
  · refine .inr ⟨b, cap', cur, h1, h2, (hg.block b (Array.getElem?_eq_some_iff.1 h3).1 ?_).trans h3, h4⟩
    intro e
    rcases ho.2 with ⟨rfl, _⟩ | ⟨g', cap2, cur', rfl, _, h6, _⟩
    · cases e
    · simp only [Value.ownBlock, Option.some.injEq] at e
      subst e
      rw [h3] at h6
      simp at h6

def cyIn (a : List Int) : Nat → Int → List Bool → List Int → Option (List Bool × List Int)
  | 0, _, _, _ => none
  | f + 1, q, s, c => if s.getD q.toNat false = true then some (s, c) else cyIn a f (a.getD q.toNat 0) (s.set q.toNat true) (c ++ [q])
def cyOut (a : List Int) : Nat → Nat → List Bool → Option (List (List Int))
  | 0, _, _ => some []
  | c + 1, p, s => match cyIn a 7 p s [] with
    | none => none
    | some (s', cy) => match cyOut a c (p + 1) s' with
      | none => none
      | some r => some (if 0 < cy.length then cy :: r else r)
theorem cyOut_step {a : List Int} {c p : Nat} {s : List Bool} {L : List (List Int)} (h : cyOut a (c + 1) p s = some L) :
    ∃ s' cy r, cyIn a 7 p s [] = some (s', cy) ∧ cyOut a c (p + 1) s' = some r ∧ L = if 0 < cy.length then cy :: r else r := by
  rw [cyOut] at h
  cases h1 : cyIn a 7 p s [] with
  | none => rw [h1] at h; cases h
  | some x =>
    obtain ⟨s', cy⟩ := x
    rw [h1] at h
    simp only at h
    cases h2 : cyOut a c (p + 1) s' with
    | none => rw [h2] at h; cases h
    | some r => rw [h2] at h; exact ⟨s', cy, r, rfl, h2, (Option.some.inj h).symm⟩

abbrev Cyc := Value × List Int
def cycR (L : List (List Int)) (pre : List Cyc) (x : Cyc) (W : World) : Prop := OI W 0 x.1 x.2.length x.2 ∧ ∃ r, pre.map Prod.snd ++ x.2 :: r = L
theorem cycR_put {L : List (List Int)} (pre : List Cyc) (x : Cyc) (W : World) (k : Nat) (r : Loop) (o : Obj) (h : cycR L pre x W) (hk : W.heap[k]? = some (.loop r)) : cycR L pre x (W.putObj k o) := by
  refine ⟨⟨h.1.1, ?_⟩, h.2⟩
  rcases h.1.2 with h' | ⟨g, cap, cur, h1, h2, h3, h4⟩
  · exact .inl h'
  · refine .inr ⟨g, cap, cur, h1, h2, (World.putObj_heap_other (fun e => ?_)).trans h3, h4⟩
    subst e; rw [hk] at h3; cases h3

attribute [local go_sem] Oper.semAt_some

set_option maxRecDepth 100000 in
set_option maxHeartbeats 3200000 in
theorem cycSeq {w0 : World} {a : List Int} {aa : Option Addr} {ac ab off Bx : Nat} {L : List (List Int)} (hcell : w0.cell? ⟨Bx, 0, none⟩ = some (.slice aa a.length ac))
    (ha : 0 < a.length → aa = some ⟨ab, off, none⟩) (hc : CI w0 ab off a) (hG : Good a.length a) (h5 : a.length ≤ 5) (h1 : 0 < a.length) (hL : cyOut a a.length 0 (List.replicate a.length false) = some L) :
    SeqOK Tryd.prog 71 #[.pointer (some ⟨Bx, 0, none⟩)] (fun x : Cyc => #[x.1]) (cycR L) (fun xs => xs.map Prod.snd = L) (fun _ => True) 1000 (fun k => k = Bx ∨ k = ab) w0 := by
  intro l J Jx D W hb hBd hDC hJ hJx hY h0
  have hBx : ¬ D Bx := fun h => hDC _ h (.inl rfl)
  have hab : ¬ D ab := fun h => hDC _ h (.inr rfl)
  have hcW := cell_kept hb hcell
  have hciW := hc.keep hb
  obtain rfl := ha h1
  clear ha hDC hcell hc
  replace hJ := Lib.hid hJ
  replace hJx := Lib.hid hJx
  replace hY := Lib.hid hY
  replace hBd := Lib.hid hBd
  replace hL := Lib.hid hL
  show CallsIn Fence.wide 0 Tryd.prog 71 #[.func (.yield l) #[] #[], .pointer (some ⟨Bx, 0, none⟩)] W _
  refine callsIn_of_wp Tryd.func71 rfl trivial ?_
  simp only [Tryd.ntmps71, List.size_toArray, List.length_cons, List.length_nil, Nat.reduceAdd, Nat.reduceSub, Array.replicate_succ,
     Array.replicate_zero, List.push_toArray, List.append_toArray, List.nil_append, List.cons_append]
  refine wpIn_wide.2 ?_
  go_wp2_with (at_make; refine wpMake elemBool (by decide) rfl _ _ rfl a.length rfl rfl (by omega) (Nat.le_refl _) ?_; intro w1 ho hgr hb1; have hcW1 := cell_kept hb1 hcW)
  obtain ⟨g, hg⟩ : ∃ g, g = W.heap.size := ⟨_, rfl⟩
  rw [← hg] at ho ⊢
  have hgs : g < w1.heap.size := by
    rcases ho.2 with ⟨h', _⟩ | ⟨b, cap, cur, h', _, h3, _⟩
    · cases h'
    · simp only [Value.slice.injEq, Option.some.injEq, Addr.mk.injEq] at h'
      rw [h'.1.1]; exact (Array.getElem?_eq_some_iff.1 h3).1
  have hOn1 : Only D W w1 := Only.of_below hb1
  have hJ1 : J [] D w1 := hJ.out _ _ _ _ h0 hb1.size (fun k hk => hb1.block k (hBd.out k hk))
  have hBd1 : Bd D w1 := fun k hk => Nat.lt_of_lt_of_le (hBd.out k hk) hb1.size
  have hDg : ¬ D g := fun h => by have := hBd.out g h; omega
  have hBxg : Bx < g := by rw [hg]; exact World.block_lt_of_cell? W _ hcW
  have habg : ab < g := by rw [hg]; exact World.block_lt_of_cell? W _ (hciW 0 h1)
  have hOB : OB w1 g (.slice (some ⟨g, 0, none⟩) a.length a.length) a.length (List.replicate a.length false) := by unfold OB; rw [List.map_replicate, hg]; rw [hg] at ho; exact ho
  clear ho hgr hb1 hcW1 h0 hb hBd
  replace hg := Lib.hid hg
  replace hciW := Lib.hid hciW
  replace hcW := Lib.hid hcW
  refine (wpIn_wide (n := 0)).1 ?_
  gi_loopw [12] (fun iv wr => ∃ (k c : Nat) (pre : List Cyc) (D1 : Nat → Prop) (s : List Bool) (r : List (List Int)), iv = .int .i64 k ∧ Hid (k + c = a.length) ∧ k ≤ a.length ∧ J pre D1 wr ∧ Bd D1 wr ∧ Only D W wr ∧ Gr D W D1 ∧ ¬ D1 g ∧ g < wr.heap.size ∧ OB wr g (.slice (some ⟨g, 0, none⟩) a.length a.length) a.length s ∧ Hid (cyOut a c k s = some r) ∧ Hid (pre.map Prod.snd ++ r = L) ∧ pre.length ≤ k) (fun iv _ => a.length - (intOf iv).toNat)
  case atStart => exact ⟨0, a.length, [], D, List.replicate a.length false, L, rfl, Nat.zero_add _, by omega, hJ1, hBd1, hOn1, Gr.refl _ _, hDg, hgs, hOB, hL, rfl, by simp⟩
  case round =>
    clear hJ1 hBd1 hOn1 hDg hgs hOB hL
    obtain ⟨k, c, pre, D1, s, r, rfl, hkc, hk, hJk, hBk, hOn, hGr, hgD, hgs, hOB, hr, hpr, hpl⟩ := hrel
    have hkc' := hkc.out
    by_cases hlt : k < a.length
    · obtain ⟨c, rfl⟩ : ∃ c', c = c' + 1 := ⟨c - 1, by omega⟩
      clear hkc'
      obtain ⟨sE, cyE, r', e1, e2, e3⟩ := cyOut_step hr.out
      replace e1 := Lib.hid e1
      replace e2 := Lib.hid e2
      replace e3 := Lib.hid e3
      clear hr
      gi_wp2
      obtain ⟨wo, hwo⟩ : ∃ wo, wo = wr := ⟨_, rfl⟩
      rw [← hwo] at hJk hBk hOn hgs hOB ⊢
      clear hwo
      have hcB := hOn.cell (p := ⟨Bx, 0, none⟩) hBx hcW.out
      have hcA : CI wo ab off a := fun j hj => hOn.cell (p := ⟨ab, off + j, none⟩) hab (hciW.out j hj)
      clear hcW hciW
      refine wpIn_wide.2 ?_
      go_loopg [5, 6] 7 (fun f cv qv wr => ∃ (q : Int) (s' : List Bool) (cy : List Int), qv = .int .i64 q ∧ 0 ≤ q ∧ q < a.length ∧ cy.length + f = 7 ∧ OB wr g (.slice (some ⟨g, 0, none⟩) a.length a.length) a.length s' ∧ OI wr wo.heap.size cv cy.length cy ∧
        Hid (cyIn a f q s' cy = some (sE, cyE)) ∧ Only (fun i => i = g) wo wr)
      case atStart => exact ⟨k, s, [], rfl, by omega, by omega, rfl, hOB, OI.nil _ _, e1.out, Only.refl _ _⟩
      case round =>
        clear hOB e1
        obtain ⟨q, s', cy, rfl, hq0, hq1, hcf, hOB, hOI, hin, hOo⟩ := hrel
        obtain ⟨f, rfl⟩ : ∃ f, gk = f + 1 := by
          cases gk with
          | zero => have := hin.out; simp [cyIn] at this
          | succ f => exact ⟨f, rfl⟩
        have hin' := hin.out
        have hcs := hOB.cell (j := q.toNat) (by omega)
        have hfs := hOB.free q.toNat
        obtain ⟨b, hb⟩ : ∃ b, s'.getD q.toNat false = b := ⟨_, rfl⟩
        rw [hb] at hcs
        cases b with
        | false =>
          rw [cyIn, hb, if_neg (by decide)] at hin'
          obtain ⟨n1, n2⟩ := hG q.toNat (by omega)
          have hcq : wr.cell? ⟨ab, off + q.toNat, none⟩ = some (.int .i64 (a.getD q.toNat 0)) := hOo.cell (p := ⟨ab, off + q.toNat, none⟩) (by simp; omega) (hcA q.toNat (by omega))
          have hcBr := hOo.cell (p := ⟨Bx, 0, none⟩) (by simp; omega) hcB
          obtain ⟨q2, hq2⟩ : ∃ q2, a.getD q.toNat 0 = q2 := ⟨_, rfl⟩
          rw [hq2] at hcq hin' n1 n2
          replace hin' := Lib.hid hin'
          have hst := hOB.store q.toNat true
          have hOI1 := hOI.otherB hOB hst.2
          have hOo1 := hOo.setCell (p := ⟨g, q.toNat, none⟩) rfl (.bool true)
          have hcq1 : (wr.setCell ⟨g, q.toNat, none⟩ (.bool true)).cell? ⟨ab, off + q.toNat, none⟩ = some (.int .i64 q2) := (World.cell?_of_block (Below.heap_setCell _ _ _ _ (by simp; omega))).trans hcq
          have hcB1 : (wr.setCell ⟨g, q.toNat, none⟩ (.bool true)).cell? ⟨Bx, 0, none⟩ = some (.slice (some ⟨ab, off, none⟩) a.length ac) := (World.cell?_of_block (Below.heap_setCell _ _ _ _ (by simp; omega))).trans hcBr
          have hso := hOo1.size
          clear hb hq2 hin hcq hcBr
          go_wp2_with (at_builtin; refine wpAppI' rfl _ _ rfl rfl hOI1 rfl (by simp) (by omega) hso ?_; intro v2 w2 hOI2 hgr2 hb2; have hcq2 := (hb2.cell (p := ⟨ab, off + q.toNat, none⟩) (by simp; omega)).trans hcq1; have hcB2 := (hb2.cell (p := ⟨Bx, 0, none⟩) (by simp; omega)).trans hcB1; have hOB2 := hst.1.otherI hOI1 hgr2; have hOo2 := hOo1.thenBelow hb2; clear hcq1 hcB1)
          go_roundg f
          case measure => omega
          case rel => exact ⟨q2, _, cy ++ [q], rfl, n1, n2, by simp; omega, hOB2, by simpa using hOI2, hin', hOo2⟩
        | true =>
          rw [cyIn, if_pos hb] at hin'
          obtain ⟨rfl, rfl⟩ := Prod.mk.inj (Option.some.inj hin')
          have hJr := hJ.out _ _ _ _ hJk hOo.size (fun i hi => hOo.same i (hBk i hi) (fun e => hgD (e ▸ hi)))
          have hBr : Bd D1 wr := fun i hi => Nat.lt_of_lt_of_le (hBk i hi) hOo.size
          have hOnr : Only D W wr := by
            refine hOn.trans (D' := fun i => i = g) hOo ?_
            intro i hi
            right
            have := hg.out
            omega
          clear hin hin' hb
          obtain ⟨ca, cc, rfl⟩ := hOI.shape
          go_wp2
          have hkc2 : Hid (k + 1 + c = a.length) := by have := hkc.out; show k + 1 + c = a.length; omega
          by_cases hlen : 0 < cy.length
          · have hlen' : decide (0 < (cy.length : Int)) = true := by simp; omega
            have e3' := e3.out
            rw [if_pos hlen] at e3'
            replace e3' := Lib.hid e3'
            clear e3
            obtain ⟨fn, tmps, assign, body, hy, hR⟩ := hY.out pre (.slice ca cy.length cc, cy) D1 wr hJr hBr hOnr hGr ⟨hOI.own, r', by have := hpr.out; rwa [e3'.out] at this⟩ (by omega)
            dsimp only at hy
            have hR := Lib.hid hR
            clear hY hJ hJx hJk hJr
            gi_wp2
            refine ⟨rfl, hR.out.mono ?_⟩
            rintro e W' ⟨D', hO', hG', hB', (⟨rfl, hJ'⟩ | ⟨rfl, hJ'⟩)⟩
            · have hsz := hOo.size
              have hOB' : OB W' g (.slice (some ⟨g, 0, none⟩) a.length a.length) a.length s' := hO'.row hOB (fun b hb => by
                simp only [Value.ownBlock, Option.some.injEq] at hb
                rw [← hb]; exact hgD)
              gi_wp2
              go_roundw
              case rel =>
                refine ⟨k + 1, c, pre ++ [(.slice ca cy.length cc, cy)], D', s', r', by go_num, hkc2, hlt, hJ', hB', hOnr.trans hO' hGr, hGr.trans hG' hOnr.size, ?_, Nat.lt_of_lt_of_le hgs (Nat.le_trans hOo.size hO'.size), hOB', e2, ?_, by rw [List.length_append, List.length_singleton]; exact Nat.succ_le_succ hpl⟩
                · intro h
                  rcases hG' g h with h' | h'
                  · exact hgD h'
                  · exact absurd (Nat.lt_of_lt_of_le hgs hOo.size) (Nat.not_lt.2 h')
                · have := hpr.out
                  rw [e3'.out] at this
                  show _ = _
                  rw [List.map_append, List.append_assoc]
                  exact this
              case measure => simp [intOf]; omega
            · gi_wp2
              refine bodyPost_ret (results_none rfl _ _ _) rfl ?_
              exact ⟨⟨_, rfl⟩, D', hOnr.trans hO' hGr, hGr.trans hG' hOnr.size, hB', .inr ⟨_, trivial, hJ'⟩⟩
          · have hlen' : decide (0 < (cy.length : Int)) = false := decide_eq_false (by omega)
            have e3' := e3.out
            rw [if_neg hlen] at e3'
            replace e3' := Lib.hid e3'
            clear e3 hY hJ hJx
            gi_wp2
            refine ⟨fun _ h => (by cases h), ?_⟩
            gi_wp2
            go_roundw
            case rel => exact ⟨k + 1, c, pre, D1, s', r', by go_num, by have := hkc.out; show _ = _; omega, by omega, hJr, hBr, hOnr, hGr, hgD, Nat.lt_of_lt_of_le hgs hOo.size, hOB, e2, by have := hpr.out; rw [e3'.out] at this; exact this, by omega⟩
            case measure => simp [intOf]; omega
    · obtain rfl : k = a.length := by omega
      obtain rfl : c = 0 := by omega
      have hr' := Option.some.inj hr.out
      subst hr'
      clear hJ hJx hY hr
      gi_wp2
      first | refine bodyPost_end (results_none rfl _ _ _) rfl ?_ | refine bodyPost_ret (results_none rfl _ _ _) rfl ?_
      exact ⟨⟨_, rfl⟩, D1, hOn, hGr, hBk, .inl ⟨pre, by have := hpr.out; rwa [List.append_nil] at this, hJk⟩⟩

set_option maxHeartbeats 400000 in
theorem cyclesCall (aa : Option Addr) (n c : Nat) (w : World) : Calls Tryd.prog 49 #[.slice aa n c] w fun e w' =>
    e = .returned (.func (.func 71) #[] #[.pointer (some ⟨w.heap.size, 0, none⟩)]) ∧ w' = w.alloc (.cells #[.slice aa n c] 22) := by
  have hmf : ∀ (fn : Fn) (first cap : Array Value) (w : World), (Instr.makeFunc fn first cap).run Tryd.prog w = .ok (.func fn first cap) w := fun _ _ _ _ => rfl
  go_enter Tryd.func49, Tryd.ntmps49
  go_wp2
  go_ret
  exact ⟨rfl, rfl⟩
end Go.Proofs.YtpjlaaldepfnkaaDoor

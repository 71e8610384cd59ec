/- Texts of this claim, put together: N0 VA DD DC. -/
import Derived.Test.YtiiiegflobihjaaGreatKAWu
import Derived.Test.YtiiiegflobihjaaGreatKAWk
import Derived.Test.YtiiiegflobihjaaGreatKAWl
import Derived.Deep.OwnRows
import Derived.Test.YtiiiegflobihjaaGreatKAWt
import Derived.Lib.OwnBridge
import Derived.Sort.OwnSortedInts
import Derived.Laws.BytesArg

/- The law's own function split. -/
namespace Go.Proofs.YtiiiegflobihjaaGreat
open Go.RowKit

/-- A slice value of bytes. -/
def U8s (w : World) (v : Value) (ps : List Int) : Prop :=
  ∃ a c b off, v = .slice a ps.length c ∧ (0 < ps.length → a = some ⟨b, off, none⟩) ∧ (∀ j, j < ps.length → w.cell? ⟨b, off + j, none⟩ = some (.int .u8 (ps.getD j 0))) ∧ (∀ x ∈ ps, 0 ≤ x ∧ x ≤ 255) ∧ ps.length ≤ 140737488355328
theorem U8s.keep {w w' : World} {v : Value} {ps : List Int} (h : U8s w v ps) (hb : Below w.heap.size w w') : U8s w' v ps := by
  obtain ⟨a, c, b, off, hv, ha, hc, hl⟩ := h
  exact ⟨a, c, b, off, hv, ha, fun j hj => cell_kept hb (hc j hj), hl⟩
/-- A store of a one-cell element. -/
theorem OwX.store1 {α : Type} {E : TypeId} {El : World → List Value → α → Prop} (hS : Stab E El) {w : World} {B g n cap : Nat} {xs : List α} (h : OwX E 1 El w B (.slice (some ⟨g, 0, none⟩) n cap) n xs) {j : Nat} (hj : j < n) {u : Value} (hu : u.oneCell' = true) {x : α} (hEl : El w [u] x) :
    OwX E 1 El (w.setCell ⟨g, j, none⟩ u) B (.slice (some ⟨g, 0, none⟩) n cap) n (xs.set j x) ∧ w.grownBy (w.setCell ⟨g, j, none⟩ u) (some g) := by
  obtain ⟨vs, h1, h2, h3, h4⟩ := h
  obtain ⟨k1, k2⟩ := World.ownsRow.stored h1 j u
  have hX := KeepX.grown k2 (ownsRow_ty h1)
  have hvl : vs.length = n := by have := h1.1; simpa using this
  refine ⟨⟨vs.set j u, k1, by rw [List.length_set]; exact h2, fun y hy => ?_, fun i y hi => ?_⟩, k2⟩
  · rcases List.mem_or_eq_of_mem_set hy with hy | rfl
    · exact h3 y hy
    · exact hu
  · have hil : i < xs.length := by
      have := (List.getElem?_eq_some_iff.1 hi).1
      rwa [List.length_set] at this
    rw [Nat.mul_one]
    have e1 : ((vs.set j u).drop i).take 1 = [(vs.set j u)[i]'(by rw [List.length_set]; omega)] := by
      rw [List.drop_eq_getElem_cons (by rw [List.length_set]; omega), List.take_succ_cons, List.take_zero]
    rw [e1]
    by_cases e : i = j
    · subst e
      rw [List.getElem?_set_self (by omega)] at hi
      injection hi with hi
      subst hi
      rw [List.getElem_set_self]
      exact hS _ _ _ _ hEl hX
    · rw [List.getElem?_set_ne (fun h => e h.symm)] at hi
      rw [List.getElem_set_ne (fun h => e h.symm)]
      have h5 := h4 i y hi
      rw [Nat.mul_one, List.drop_eq_getElem_cons (by omega), List.take_succ_cons, List.take_zero] at h5
      exact hS _ _ _ _ h5 hX
end Go.Proofs.YtiiiegflobihjaaGreat

/- slices.Compact at rows of ints (as lists of one number). -/
namespace Go.Proofs.YtiiiegflobihjaaGreat
open Go.RowKit

theorem one1 {x : List Int} (h : x.length = 1) : ∃ a, x = [a] := by
  match x, h with
  | [a], _ => exact ⟨a, rfl⟩
theorem CI.all1 {w : World} {b o : Nat} {x0 : Int} (h : CI w b o [x0]) : w.cell? ⟨b, o, none⟩ = some (.int .i64 x0) := h 0 (by simp)
/-- The head of a row, when its tail is set to something else. -/
theorem OwX.setTail1 {w : World} {B g n cap m : Nat} {xs : List (List Int)} (h : OwX 3 1 EI w B (.slice (some ⟨g, 0, none⟩) n cap) n xs) (hm : m ≤ n) (vs : List Value) :
    OwX 3 1 EI (w.setCells g (m * 1) vs) B (.slice (some ⟨g, 0, none⟩) m cap) m (xs.take m) ∧ Below B w (w.setCells g (m * 1) vs) ∧ KeepX 3 w (w.setCells g (m * 1) vs) := by
  have hl := h.length
  obtain ⟨ws, h1, h2, h3, h4⟩ := h
  rcases h1.2 with ⟨h0, _⟩ | ⟨g', cap', cur, he, hB, hg, hc1, hc2, hc3, hc4⟩
  · cases h0
  · injection he with he1 he2 he3
    injection he1 with he1
    injection he1 with he1
    subst he1 he3
    obtain ⟨cur', k1, k2, k3, k4, k5, k6, k7, k8⟩ := setCells_row vs (m * 1) w cur hg
    have hmn : m * 1 ≤ n * 1 := Nat.mul_le_mul_right _ hm
    have hwl : ws.length = n * 1 := h1.1
    have hws : cur'.toList.take (m * 1) = ws.take (m * 1) := by
      rw [k3, ← hc4, List.take_take, Nat.min_eq_left hmn]
    refine ⟨⟨ws.take (m * 1), ⟨by rw [List.length_take]; omega, .inr ⟨g, cap, cur', rfl, hB, k1, by omega, hc2, by rw [k2]; exact hc3, hws⟩⟩, by rw [List.length_take]; omega, fun u hu => h3 u (List.mem_of_mem_take hu), fun j x hj => ?_⟩, ⟨k6, k7, k8, by rw [k5]; exact Nat.le_refl _, fun k hk => k4 k (by omega)⟩, fun k cs t hk ht => k4 k fun e => ?_⟩
    · rw [List.getElem?_take] at hj
      split at hj
      · rename_i hjm
        have := h4 j x hj
        have hjm7 : j * 1 + 1 ≤ m * 1 := by rw [← Nat.succ_mul]; exact Nat.mul_le_mul_right _ hjm
        show _ = _
        rw [List.drop_take, List.take_take, Nat.min_eq_left (by omega)]
        exact this
      · cases hj
    · subst e
      rw [hg] at hk
      injection hk with hk
      injection hk with _ hk
      exact ht hk.symm
end Go.Proofs.YtiiiegflobihjaaGreat

/- slices.Compact of ints: it writes into its own block alone. -/
namespace Go.Proofs.YtiiiegflobihjaaGreat
open Go.RowKit

/-- Nothing changes but block g. -/
def GrG (g : Nat) (w w' : World) : Prop := w.grownBy w' (some g)
theorem GrG.below {g : Nat} {w w' : World} (h : Below w.heap.size w w') : GrG g w w' := ⟨h.os, h.tape, h.output, h.size, fun k hk _ => h.block k hk⟩
theorem GrG.trans {g : Nat} {a b c : World} (h : GrG g a b) (k : GrG g b c) : GrG g a c := World.grownBy.trans h k
theorem GrG.setCell {g : Nat} {w : World} {p : Addr} (hp : p.block = g) (v : Value) : GrG g w (w.setCell p v) := by
  have h := Below.setCell (p := p) (Below.refl 0 w) (Nat.zero_le _) v
  exact ⟨h.os, h.tape, h.output, h.size, fun k hk hne => Below.heap_setCell w p v k (fun e => hne (by rw [e, hp]))⟩
theorem OwX.setTail1G {w : World} {B g n cap m : Nat} {xs : List (List Int)} (h : OwX 3 1 EI w B (.slice (some ⟨g, 0, none⟩) n cap) n xs) (hm : m ≤ n) (vs : List Value) :
    OwX 3 1 EI (w.setCells g (m * 1) vs) B (.slice (some ⟨g, 0, none⟩) m cap) m (xs.take m) ∧ Below B w (w.setCells g (m * 1) vs) ∧ GrG g w (w.setCells g (m * 1) vs) := by
  obtain ⟨h1, h2, _⟩ := OwX.setTail1 h hm vs
  refine ⟨h1, h2, ?_⟩
  obtain ⟨ws, k1, _⟩ := h
  rcases k1.2 with ⟨h0, _⟩ | ⟨g', cap', cur, he, hB, hg, hc1, hc2, hc3, hc4⟩
  · cases h0
  · injection he with he1 he2 he3
    injection he1 with he1
    injection he1 with he1
    subst he1 he3
    obtain ⟨cur', k1, k2, k3, k4, k5, k6, k7, k8⟩ := setCells_row vs (m * 1) w cur hg
    exact ⟨k6, k7, k8, by rw [k5]; exact Nat.le_refl _, fun k _ hk => k4 k (fun e => hk (by rw [e]))⟩
set_option maxRecDepth 100000 in
set_option maxHeartbeats 3200000 in
theorem compactIntG {w : World} {B g n cap : Nat} {xs : List (List Int)} (h : OwX 3 1 EI w B (.slice (some ⟨g, 0, none⟩) n cap) n xs) (hn : n ≤ 1000) :
    Calls Tryz.prog 77 #[.slice (some ⟨g, 0, none⟩) n cap] w fun e w' => ∃ m, e = .returned (.slice (some ⟨g, 0, none⟩) m cap) ∧ OwX 3 1 EI w' B (.slice (some ⟨g, 0, none⟩) m cap) m (cmpc xs) ∧ Below B w w' ∧ GrG g w w' := by
  have hl := h.length
  have hB : B ≤ g := by
    obtain ⟨_, h1, _⟩ := h
    exact (World.ownsRow.lt h1 g rfl).1
  have hnc : n ≤ cap ∧ (cap : Int) ≤ 9223372036854775807 := by
    obtain ⟨_, h1, _⟩ := h
    rcases h1.2 with ⟨h0, _⟩ | ⟨g', cap', cur, he, _, _, hc1, hc2, _⟩
    · cases h0
    · injection he with _ _ he3
      subst he3
      unfold maxLen at hc2
      exact ⟨hc1, by omega⟩
  obtain ⟨hnc1, hnc2⟩ := hnc
  have hxl : ∀ j, j < n → (xs.getD j []).length = 1 := fun j hj => (h.intCells hj).1
  have hcells := Lib.hid (fun j (hj : j < n) => OwX.intCells h hj)
  have hh := Lib.hid h
  have hlh := Lib.hid hl
  have hxlh := Lib.hid hxl
  clear h hl hxl
  have hfin0 : Hid (∀ q, cmpc (xs.take n) = xs.take n → OwX 3 1 EI (w.drewN q) B (.slice (some ⟨g, 0, none⟩) n cap) n (cmpc xs)) := fun q hq => by
    rw [List.take_of_length_le (by rw [hlh.out]; exact Nat.le_refl _)] at hq
    rw [hq]
    exact hh.out.keep (EI.stab _) (below_drewN (Below.refl _ w) q)
  have hBw : Hid (∀ q, Below B w (w.drewN q) ∧ GrG g w (w.drewN q)) := fun q => ⟨below_drewN (Below.refl _ w) q, GrG.below (below_drewN (Below.refl _ w) q)⟩
  by_cases h2 : n < 2
  · have hall : Hid (cmpc (xs.take n) = xs.take n) := by
      show _ = _
      have : n = 0 ∨ n = 1 := by omega
      rcases this with rfl | rfl
      · simp [cmpc]
      · match xs, hlh.out with
        | [x], _ => simp [cmpc]
    have hd : decide ((n : Int) < 2) = true := decide_eq_true (by omega)
    go_enter Tryz.func77, Tryz.ntmps77
    go_wp2
    go_ret
    exact ⟨n, rfl, hfin0.out 0 hall.out, (hBw.out 0).1, (hBw.out 0).2⟩
  · have hd : decide ((n : Int) < 2) = false := decide_eq_false (by omega)
    have h1 : Hid (cmpc (xs.take (0 + 1)) = xs.take (0 + 1)) := by
      show _ = _
      match xs, hlh.out with
      | x :: r, _ => simp [cmpc]
      | [], h => simp at h; omega
    go_enter Tryz.func77, Tryz.ntmps77
    go_wp2_with fail
    go_loopg [3] n (fun f kv wr => ∃ p q : Nat, kv = .int .i64 ((p : Int) + 1) ∧ p + 1 ≤ n ∧ n ≤ p + 1 + f ∧ wr = w.drewN q ∧ Hid (cmpc (xs.take (p + 1)) = xs.take (p + 1)))
    case atStart => exact ⟨0, 0, rfl, by omega, by omega, rfl, h1⟩
    case round =>
      clear h1
      obtain ⟨p, q, rfl, hp, hpf, rfl, hc⟩ := hrel
      by_cases hlt : p + 1 < n
      · obtain ⟨f, rfl⟩ : ∃ f, gk = f + 1 := ⟨gk - 1, by omega⟩
        obtain ⟨hx7, hxc⟩ := hcells.out (p + 1) hlt
        obtain ⟨hy7, hyc⟩ := hcells.out p (by omega)
        rw [Nat.mul_one] at hxc hyc
        obtain ⟨x, hx⟩ : ∃ x, xs.getD (p + 1) [] = x := ⟨_, rfl⟩
        obtain ⟨y, hy⟩ : ∃ y, xs.getD p [] = y := ⟨_, rfl⟩
        have htk := cmpc_take (xs := xs) (m := p) (by rw [hlh.out]; exact hlt)
        rw [hx, hy] at htk
        rw [hx] at hx7 hxc
        rw [hy] at hy7 hyc
        obtain ⟨x0, rfl⟩ := one1 hx7
        obtain ⟨y0, rfl⟩ := one1 hy7
        have c0 := hxc.all1
        have d0 := hyc.all1
        have hix1 : (p : Int) + 1 < (n : Int) := by omega
        have hix0 : (0 : Int) ≤ (p : Int) := by omega
        have hix2 : (0 : Int) ≤ (p : Int) + 1 := by omega
        have hix3 : (p : Int) < (n : Int) := by omega
        have hwr : IntKind.i64.wrap ((p : Int) + 1 - 1) = (p : Int) := by rw [show (p : Int) + 1 - 1 = (p : Int) by omega]; exact IntWalk.i64_in _ (by omega)
        have htn : ((p : Int) + 1).toNat = p + 1 := by omega
        have hty := hy
        have hxt := hx
        clear hxc hyc hx7 hy7 hx hy
        by_cases he : [x0] = [y0]
        · have hE : (x0 == y0) = true := by simpa using he
          have hE2 : (x0 != y0) = false := by simpa using he
          rw [if_pos he.symm, hc.out] at htk
          have htk := Lib.hid htk
          replace hty := Lib.hid hty
          clear he hc hxt
          go_wp2_with fail
          go_quiet (fail)
          go_wp2_with fail
          obtain ⟨N2, hN2⟩ : ∃ N2, n - (p + 1) = N2 := ⟨_, rfl⟩
          obtain ⟨C2, hC2⟩ : ∃ C2, cap - (p + 1) = C2 := ⟨_, rfl⟩
          rw [hN2, hC2]
          have hnN : n = p + 1 + N2 := by omega
          replace hC2 := Lib.hid hC2
          replace hN2 := Lib.hid hN2
          have hnNh := Lib.hid hnN
          have hN2i : (1 : Int) ≤ (N2 : Int) := by omega
          have hs0 : Hid (xs.take (p + 1) = cmpc (xs.take (p + 1 + (0 + 1)))) := htk.out.symm
          have hO0 : OwX 3 1 EI (w.drewN (q + nq)) B (.slice (some ⟨g, 0, none⟩) n cap) n xs := hh.out
          have hb0 : Below B w (w.drewN (q + nq)) := below_drewN (Below.refl _ w) _
          have hk0 : GrG g w (w.drewN (q + nq)) := GrG.below (below_drewN (Below.refl _ w) _)
          have hk0h := Lib.hid hk0
          have hsame : Hid (∀ j, p + 1 ≤ j → xs.getD j [] = xs.getD j []) := fun _ _ => rfl
          clear hnN c0 d0 hE hE2 hix1 hix2 htn hwr hk0
          go_loopg [3, 5] N2 (fun f kv rv wr => ∃ (kk r : Nat) (cs : List (List Int)), kv = .int .i64 ((kk : Nat) : Int) ∧ rv = .int .i64 ((r : Int) + 1) ∧ r + 1 ≤ N2 ∧ N2 ≤ r + 1 + f ∧ kk < p + 1 + (r + 1) ∧ OwX 3 1 EI wr B (.slice (some ⟨g, 0, none⟩) n cap) n cs ∧ Hid (cs.take kk = cmpc (xs.take (p + 1 + (r + 1)))) ∧ Hid (∀ j, kk ≤ j → cs.getD j [] = xs.getD j []) ∧ Below B w wr ∧ Hid (GrG g w wr))
          case atStart => exact ⟨p + 1, 0, xs, by go_num, rfl, by omega, by omega, by omega, hO0, hs0, hsame, hb0, hk0h⟩
          case round =>
            clear hO0 hs0 hsame hb0 hk0h
            obtain ⟨kk, r, cs, rfl, rfl, hr, hrf, hkk, hO, htkk, hsm, hbw, hkx⟩ := hrel
            have hcl := hO.length
            have hOh := Lib.hid hO
            have hnn := hnNh.out
            by_cases hltr : r + 1 < N2
            · obtain ⟨f, rfl⟩ : ∃ f, gk = f + 1 := ⟨gk - 1, by omega⟩
              obtain ⟨hx7, hxc⟩ := hO.intCells (j := p + 1 + (r + 1)) (by omega)
              obtain ⟨hy7, hyc⟩ := hO.intCells (j := p + 1 + r) (by omega)
              obtain ⟨hz7, hzc⟩ := hO.intCells (j := kk) (by omega)
              rw [hsm.out _ (by omega)] at hx7 hxc
              rw [hsm.out _ (by omega)] at hy7 hyc
              rw [Nat.mul_one] at hxc
              rw [Nat.mul_one] at hyc
              rw [Nat.mul_one] at hzc
              obtain ⟨x, hx⟩ : ∃ x, xs.getD (p + 1 + (r + 1)) [] = x := ⟨_, rfl⟩
              obtain ⟨y, hy⟩ : ∃ y, xs.getD (p + 1 + r) [] = y := ⟨_, rfl⟩
              obtain ⟨z, hz⟩ : ∃ z, cs.getD kk [] = z := ⟨_, rfl⟩
              have htt := cmpc_take (xs := xs) (m := p + 1 + r) (by rw [hlh.out]; omega)
              have hput := compact_put (xs := xs) (cs := cs) (m := p + 1 + (r + 1)) (kk := kk) (x := x) (by rw [hcl, hlh.out]) hkk (by rw [hlh.out]; omega) htkk.out hsm.out hx
              rw [show p + 1 + r + 1 = p + 1 + (r + 1) by omega, hx, hy] at htt
              rw [show p + 1 + (r + 1) - 1 = p + 1 + r by omega, hy] at hput
              rw [hx] at hx7 hxc
              rw [hy] at hy7 hyc
              rw [hz] at hz7 hzc
              obtain ⟨x0, rfl⟩ := one1 hx7
              obtain ⟨y0, rfl⟩ := one1 hy7
              obtain ⟨z0, rfl⟩ := one1 hz7
              have c0 := hxc.all1
              have d0 := hyc.all1
              have e0 := hzc.all1
              have hi1 : (r : Int) + 1 < (N2 : Int) := by omega
              have hi2 : (0 : Int) ≤ (r : Int) + 1 := by omega
              have hi3 : (0 : Int) ≤ (r : Int) := by omega
              have hi4 : (r : Int) < (N2 : Int) := by omega
              have hi5 : (kk : Int) < (n : Int) := by omega
              have hN2b : (N2 : Int) ≤ 1000 := by omega
              have hkkb : (kk : Int) ≤ 1000 := by omega
              have htn : ((r : Int) + 1).toNat = r + 1 := by omega
              have hwr : IntKind.i64.wrap ((r : Int) + 1 - 1) = (r : Int) := by rw [show (r : Int) + 1 - 1 = (r : Int) by omega]; exact IntWalk.i64_in _ (by omega)
              have hwr2 : IntKind.i64.wrap (r : Int) = (r : Int) := IntWalk.i64_in _ (by omega)
              clear hxc hyc hzc hx7 hy7 hz7 hx hy hz hO
              by_cases he : [x0] = [y0]
              · have hE : (x0 == y0) = true := by simpa using he
                have hE2 : (x0 != y0) = false := by simpa using he
                rw [if_pos he.symm] at htt
                have htt2 : Hid (cs.take kk = cmpc (xs.take (p + 1 + (r + 1 + 1)))) := htkk.out.trans htt.symm
                clear he htt hput
                replace hnn := Lib.hid hnn
                replace hcl := Lib.hid hcl
                go_wp2_with fail
                go_quiet (fail)
                clear hwr hwr2 htn
                go_wp2_with fail
                go_roundg f
                case measure => omega
                case rel => exact ⟨kk, r + 1, cs, rfl, by go_num, by omega, by omega, by omega, hOh.out, htt2, hsm, below_drewN hbw _, hkx.out.trans (GrG.below (below_drewN (Below.refl _ _) _))⟩
              · have hE : (x0 == y0) = false := by simpa using he
                have hE2 : (x0 != y0) = true := by simpa using he
                obtain ⟨hp1, hp2⟩ := hput (fun h => he h.symm)
                have hp1h := Lib.hid hp1
                have hp2h := Lib.hid hp2
                have hst : Hid (∀ d, OwX 3 1 EI ((wr.drewN d).setCell ⟨g, kk, none⟩ (.int .i64 x0)) B (.slice (some ⟨g, 0, none⟩) n cap) n (cs.set kk [x0])) := fun d => (OwX.store1 (EI.stab _) (OwX.keep (EI.stab _) hOh.out (below_drewN (Below.refl _ _) d)) (by omega) (u := .int .i64 x0) rfl (x := [x0]) rfl).1
                have hst3 : Hid (∀ d, Below B w ((wr.drewN d).setCell ⟨g, kk, none⟩ (.int .i64 x0))) := fun d => Below.setCell (p := ⟨g, kk, none⟩) (below_drewN hbw d) hB _
                have hst2 : Hid (∀ d, GrG g w ((wr.drewN d).setCell ⟨g, kk, none⟩ (.int .i64 x0))) := fun d => by
                  exact (hkx.out.trans (GrG.below (below_drewN (Below.refl _ _) d))).trans (GrG.setCell (by rfl) _)
                have hfz : ∀ j, wr.frozen? ⟨g, j, none⟩ = false := fun j => hOh.out.frozen j
                have f0 := hfz kk
                clear he htt hput hp1 hp2 hfz
                replace hnn := Lib.hid hnn
                replace hcl := Lib.hid hcl
                go_wp2_with fail
                go_quiet (fail)
                clear hwr hwr2 htn
                go_wp2_with fail
                go_roundg f
                case measure => omega
                case rel => exact ⟨kk + 1, r + 1, cs.set kk [x0], by go_num, by go_num, by omega, by omega, by omega, hst.out _, hp1h, hp2h, hst3.out _, hst2.out _⟩
            · have hrN : r + 1 = N2 := by omega
              have hfz : ∀ j, wr.frozen? ⟨g, j, none⟩ = false := fun j => hO.frozen j
              have hcs : ∀ j, j < n - kk → (wr.cell? ⟨g, kk + j, none⟩).isSome = true := fun j hj => by
                obtain ⟨k7, kc⟩ := hO.intCells (j := kk + j) (by omega)
                have h1 := kc 0 (by rw [k7]; decide)
                rw [Nat.mul_one, Nat.add_zero] at h1
                rw [h1]; rfl
              have hcl7 := fun ty => Lib.run_clear_slice (P := Tryz.prog) wr 78 3 ty (.int .i64 0) (by kernel_rfl) (fun w => by kernel_rfl) rfl rfl g kk (n - kk) (cap - kk) (by omega) hcs (fun j _ => hfz _)
              obtain ⟨Z, hZ⟩ : ∃ Z, List.replicate (n - kk) (Value.int .i64 0) = Z := ⟨_, rfl⟩
              simp only [hZ] at hcl7
              obtain ⟨t1, t2, t3⟩ := OwX.setTail1G hO (m := kk) (by omega) Z
              rw [htkk.out, List.take_of_length_le (by rw [hlh.out]; omega)] at t1
              rw [Nat.mul_one] at t1 t2 t3
              obtain ⟨W2, hW2⟩ : ∃ W2, wr.setCells g kk Z = W2 := ⟨_, rfl⟩
              rw [hW2] at t1 t2 t3
              simp only [hW2] at hcl7
              have hfin := Lib.hid t1
              have hkf := Lib.hid (hkx.out.trans t3)
              have hbf := hbw.trans t2
              have hk1 : (kk : Int) ≤ (n : Int) := by omega
              have hkn : kk < n := by omega
              have hkc : kk < cap := by omega
              have hk2 : (kk : Int) ≤ (cap : Int) := by omega
              have hge : decide ((r : Int) + 1 < (N2 : Int)) = false := decide_eq_false (by omega)
              clear t1 t2 t3 hO hOh hfz hcs hZ hW2 htkk hkx hsm
              replace hnn := Lib.hid hnn
              replace hcl := Lib.hid hcl
              replace hrN := Lib.hid hrN
              go_wp2
              go_ret
              exact ⟨kk, rfl, hfin.out, hbf, hkf.out⟩
        · have hE : (x0 == y0) = false := by simpa using he
          have hE2 : (x0 != y0) = true := by simpa using he
          rw [if_neg (fun h => he h.symm), hc.out] at htk
          have htk2 : Hid (cmpc (xs.take (p + 1 + 1)) = xs.take (p + 1 + 1)) := by show _ = _; rw [htk, ← hxt]; exact (take_snoc (by rw [hlh.out]; exact hlt) []).symm
          clear he hc hty htk hxt
          go_wp2_with fail
          go_quiet (fail)
          go_wp2_with fail
          go_roundg f
          case measure => omega
          case rel => exact ⟨p + 1, _, by go_num, by omega, by omega, (by first | exact rfl | exact World.drewN_drewN _ _ _), htk2⟩
      · obtain rfl : n = p + 1 := by omega
        have hfin := Lib.hid (hfin0.out q hc.out)
        obtain ⟨b1, b2⟩ := hBw.out q
        have b2h := Lib.hid b2
        clear hc b2
        go_wp2_with fail
        go_ret
        exact ⟨p + 1, by first | rfl | (congr 2; done), hfin.out, b1, b2h.out⟩
end Go.Proofs.YtiiiegflobihjaaGreat

/- combine.text: a list of states, sorted, each once, as a text. -/
namespace Go.Proofs.YtiiiegflobihjaaGreat
open Go.RowKit Go.Sort

def sortL (xs : List Int) : List Int := xs.mergeSort fun x y => decide (x ≤ y)
theorem sortL_len (xs : List Int) : (sortL xs).length = xs.length := by simp [sortL, List.length_mergeSort]
theorem sortL_mem (xs : List Int) (x : Int) : x ∈ sortL xs ↔ x ∈ xs := by simp [sortL]
theorem sortL_asc (xs : List Int) : (sortL xs).Pairwise fun a b => a ≤ b := by
  have h := List.pairwise_mergeSort (le := fun x y : Int => decide (x ≤ y)) (fun a b c h1 h2 => by simp only [decide_eq_true_eq] at h1 h2 ⊢; omega) (fun a b => by simp only [Bool.or_eq_true, decide_eq_true_eq]; omega) xs
  exact List.Pairwise.imp (fun h => by simpa using h) h
theorem sortICall {w : World} {B n : Nat} {v : Value} {xs : List Int} (h : OI w B v n xs) (hn : 0 < n) (hn2 : n ≤ 1000) :
    Calls Tryz.prog 76 #[v] w fun e w' => e = .returned (.tuple #[]) ∧ OI w' B v n (sortL xs) ∧ Below B w w' ∧ w.grownBy w' v.ownBlock := by
  have hne : v ≠ .slice none 0 0 := by
    rintro rfl
    rcases h.2 with ⟨_, h0⟩ | ⟨g, cap, cur, h1, _⟩
    · omega
    · cases h1
  obtain ⟨g, cap, rfl, hB, hg, hnc, hcm, hl, hH⟩ := Lib.holds_of_ownsRow h hne
  have hc := AnyM.slices_Sort_int Tryz.sortI g 0 cap xs w hH hg (by omega)
  rw [hl] at hc
  refine hc.mono ?_
  rintro e w' ⟨rfl, q, os, rfl⟩
  have h1 := Lib.ownsRow_putRow (q := q) (k := n) (ys := sortL xs) h (by rw [sortL_len, hl]) (Nat.le_refl _)
  have ht : (sortL xs).take n = sortL xs := List.take_of_length_le (by rw [sortL_len]; omega)
  rw [ht] at h1
  have h2 : OI (grow (putRow (Value.int .i64) (Sort.ahead w q) g 0 (sortL xs).toArray) os) B (.slice (some ⟨g, 0, none⟩) n cap) n (sortL xs) := OI.keep h1 ⟨rfl, rfl, rfl, by simp [grow], fun k hk => Array.getElem?_append_left hk⟩
  have hgb := grownBy_sortedI (w := w) (g := g) (n := q) (os := os) (sortL xs).toArray
  refine ⟨rfl, h2, (Below.refl B w).grown hgb ?_ ?_, hgb⟩
  · omega
  · intro k hk; injection hk with hk; omega
theorem cmpL_one' (a b : Int) : cmpL [a] [b] < 0 ↔ a < b := by
  rw [cmpL_cons]
  simp [cmpL]
/-- The states of a list, in order, each once. -/
theorem cmpc_text {l : List Nat} (hl : ∀ x ∈ l, x < 256) : cmpc ((sortL (natI l)).map fun x => [x]) = (natI (thTx l)).map fun x => [x] := by
  refine asc_unique (cmpc_asc ?_) ?_ fun x => ?_
  · rw [List.pairwise_map]
    refine List.Pairwise.imp (fun {a b} h => ?_) (sortL_asc (natI l))
    rw [cmpL_one']; omega
  · rw [AscL, List.pairwise_map, natI, List.pairwise_map]
    refine List.Pairwise.imp (fun {a b} h => ?_) (thTx_asc l)
    rw [cmpL_one']; omega
  · rw [cmpc_mem, List.mem_map, List.mem_map]
    constructor
    · rintro ⟨a, ha, rfl⟩
      rw [sortL_mem, natI, List.mem_map] at ha
      obtain ⟨s, hs, rfl⟩ := ha
      exact ⟨_, List.mem_map_of_mem ((thTx_mem _ _).2 ⟨hl s hs, hs⟩), rfl⟩
    · rintro ⟨a, ha, rfl⟩
      rw [natI, List.mem_map] at ha
      obtain ⟨s, hs, rfl⟩ := ha
      exact ⟨_, (sortL_mem _ _).2 (List.mem_map_of_mem ((thTx_mem _ _).1 hs).2), rfl⟩
theorem OI.eiD {w : World} {B : Nat} {v : Value} {n : Nat} {xs : List Int} (h : OI w B v n xs) : OwX 3 1 EI w B v n (xs.map fun x => [x]) := by
  refine ⟨xs.map (Value.int .i64), h, by rw [List.length_map]; exact h.length, fun u hu => ?_, fun j x hj => ?_⟩
  · obtain ⟨x, _, rfl⟩ := List.mem_map.1 hu; rfl
  · rw [List.getElem?_map] at hj
    show _ = _
    have hlt : j < xs.length := by
      rcases Nat.lt_or_ge j xs.length with h | h
      · exact h
      · rw [List.getElem?_eq_none h] at hj; cases hj
    rw [List.getElem?_eq_getElem hlt] at hj
    simp only [Option.map_some, Option.some.injEq] at hj
    rw [Nat.mul_one, ← List.map_drop, ← List.map_take, List.drop_eq_getElem_cons hlt, ← hj]; rfl
/-- Bytes in rows. -/
def EBy (_ : World) (cs : List Value) (x : Nat) : Prop := cs = [.int .u8 (x : Int)]
theorem EBy.stab (E : TypeId) : Stab E EBy := fun _ _ _ _ h _ => h
theorem elemBy : ElemK Tryz.prog 121 5 (.int .u8 0) 1 1 := ⟨by kernel_rfl, by kernel_rfl, rfl⟩
theorem byCells {w : World} {B g n cap : Nat} {xs : List Nat} (h : OwX 5 1 EBy w B (.slice (some ⟨g, 0, none⟩) n cap) n xs) {j : Nat} {x : Nat} (hj : xs[j]? = some x) : w.cell? ⟨g, j, none⟩ = some (.int .u8 (x : Int)) := by
  obtain ⟨cs, _, h2, h3⟩ := h.cells hj
  have h2 : cs = _ := h2
  subst h2
  have := h3 0 _ rfl
  rwa [Nat.mul_one] at this
theorem strOf_natI (l : List Nat) : strOfNums (natI l) = bsN l := by
  unfold strOfNums bsN natI
  rw [List.map_map]; rfl
/-- string(bytes). -/
theorem run_bytes {w : World} {B n : Nat} {v : Value} {xs : List Nat} (h : OwX 5 1 EBy w B v n xs) (h0 : xs ≠ []) : (convert 121 9 v).run Tryz.prog w = .ok (.string (bsN xs)) w := by
  have hl := h.length
  obtain ⟨g, cap, rfl, _⟩ := h.form (by have := List.length_pos_iff.2 h0; omega)
  have hx := run_convert_bytes_arg (P := Tryz.prog) w 121 5 (by kernel_rfl) (by kernel_rfl) g 0 n cap (natI xs) (by rw [natI, List.length_map, hl]) (fun i hi => by
    rw [Nat.zero_add]
    have hi' : i < xs.length := by omega
    rw [byCells h (List.getElem?_eq_getElem hi'), natI, List.getD_eq_getElem?_getD, List.getElem?_map, List.getElem?_eq_getElem hi']; rfl) 9 (by kernel_rfl)
  rw [hx, strOf_natI]

set_option maxRecDepth 100000 in
set_option maxHeartbeats 1600000 in
theorem textC {w : World} {B : Nat} {v : Value} {l : List Nat} (h : OI w B v l.length (natI l)) (h0 : l ≠ []) (hn : l.length ≤ 1000) (hl : ∀ x ∈ l, x < 256) :
    Calls Tryz.prog 41 #[v] w fun e w' => e = .returned (.string (bsN (thTx l))) ∧ w.grownBy w' v.ownBlock ∧ Below B w w' := by
  have hpos : 0 < l.length := List.length_pos_iff.2 h0
  have hne : v ≠ .slice none 0 0 := by
    rintro rfl
    rcases h.2 with ⟨_, h0⟩ | ⟨g, cap, cur, h1, _⟩
    · omega
    · cases h1
  obtain ⟨g, cap, rfl, hB, hgl, _⟩ := Lib.holds_of_ownsRow h hne
  have HS := Lib.hid (sortICall h hpos hn)
  have hct := cmpc_text hl
  have hT0 : thTx l ≠ [] := by
    obtain ⟨s, hs⟩ := List.exists_mem_of_ne_nil _ h0
    exact List.ne_nil_of_mem ((thTx_mem _ _).2 ⟨hl s hs, hs⟩)
  have hT256 : ∀ x ∈ thTx l, x < 256 := fun x hx => ((thTx_mem _ _).1 hx).1
  have hTl : (thTx l).length ≤ 256 := by
    have := List.length_filter_le (fun s => decide (s ∈ l)) (List.range 256)
    rw [List.length_range] at this
    exact this
  obtain ⟨T, hT⟩ : ∃ T, thTx l = T := ⟨_, rfl⟩
  rw [hT] at hct hT0 hT256 hTl ⊢
  replace hT := Lib.hid hT
  replace hct := Lib.hid hct
  replace hT0 := Lib.hid hT0
  replace hT256 := Lib.hid hT256
  obtain ⟨N, hN⟩ : ∃ N, l.length = N := ⟨_, rfl⟩
  rw [hN] at HS hpos hn ⊢
  replace hN := Lib.hid hN
  have hh := Lib.hid h
  clear h hne hl h0
  go_enter Tryz.func41, Tryz.ntmps41
  go_wp2_with fail
  refine HS.out.mono ?_
  rintro e w1 ⟨rfl, ho1, hb1, hg1⟩
  have HC := Lib.hid (compactIntG ho1.eiD hn)
  rw [hct.out] at HC
  replace hg1 := Lib.hid hg1
  clear ho1
  go_wp2_with fail
  refine HC.out.mono ?_
  rintro e w2 ⟨m, rfl, hO2, hb2, hg2⟩
  have hml := hO2.length
  rw [natI, List.length_map, List.length_map] at hml
  subst hml
  have hb02 := hb1.trans hb2
  have hg02 := Lib.hid (World.grownBy.trans hg1.out hg2)
  have hcl := Lib.hid (fun W (hb : Below w2.heap.size w2 W) j (hj : j < T.length) => show W.cell? ⟨g, j, none⟩ = some (.int .i64 ((T.getD j 0 : Nat) : Int)) from by
    obtain ⟨h1, h2⟩ := hO2.intCells hj
    have h3 := cell_kept hb (h2 0 (by rw [h1]; decide))
    rw [Nat.mul_one, Nat.add_zero] at h3
    have h4 : ((natI T).map fun x => [x]).getD j [] = [((T.getD j 0 : Nat) : Int)] := by
      rw [getD_eq (by rw [List.length_map, natI, List.length_map]; exact hj), getD_eq hj]
      simp [natI]
    rw [h3, h4]; rfl)
  have ho0 : OwX 5 1 EBy w2 w2.heap.size (.slice none 0 0) 0 (T.take 0) := OwX.nil _ _
  clear hO2 hg2
  replace hb1 := Lib.hid hb1
  replace hb2 := Lib.hid hb2
  go_wp2_with fail
  go_loopw [3, 11] (fun ov jv wr => ∃ j : Nat, jv = .int .i64 j ∧ j ≤ T.length ∧ OwX 5 1 EBy wr w2.heap.size ov j (T.take j) ∧ Below w2.heap.size w2 wr) (fun _ jv _ => T.length - (intOf jv).toNat)
  case atStart => exact ⟨0, rfl, by omega, ho0, Below.refl _ _⟩
  case round =>
    clear ho0
    obtain ⟨j, rfl, hj, hO, hbr⟩ := hrel
    obtain ⟨oa, oc, hov⟩ := hO.shape
    subst hov
    by_cases hlt : j < T.length
    · have hji : (j : Int) < (T.length : Int) := by omega
      have c0 := hcl.out wr hbr j hlt
      have hsn := take_snoc hlt 0
      obtain ⟨s, hs⟩ : ∃ s, T.getD j 0 = s := ⟨_, rfl⟩
      have hs256 : s < 256 := by rw [← hs, getD_eq hlt]; exact hT256.out _ (List.getElem_mem hlt)
      rw [hs] at c0 hsn
      have hw8 : IntKind.u8.wrap (s : Int) = (s : Int) := IntWalk.u8_in _ (by omega)
      have hj9 : j ≤ 1000000000000 := by omega
      have hB1 : w2.heap.size ≤ wr.heap.size := hbr.size
      have hEB : EBy wr [.int .u8 (s : Int)] s := rfl
      have hc1 : ∀ u ∈ (#[.int .u8 (s : Int)] : Array Value).toList, u.oneCell' = true := fun u hu => by
        simp only [List.mem_cons, List.not_mem_nil, or_false] at hu
        rcases hu with rfl; rfl
      replace hEB := Lib.hid hEB
      replace hc1 := Lib.hid hc1
      replace hs := Lib.hid hs
      replace hsn := Lib.hid hsn
      go_wp2_with (at_builtin; refine wpAppX (x := s) elemBy (by decide) (by decide) (EBy.stab _) rfl _ _ rfl rfl hO rfl rfl rfl hc1.out hEB.out hj9 hB1 ?_)
      intro v3 w3 ho3 hg3 hb3 hx3
      rw [← hsn.out] at ho3
      have hbf := hbr.trans hb3
      go_wp2
      go_roundw
      case rel => exact ⟨j + 1, by go_num, hlt, ho3, hbf⟩
      case measure => simp [intOf]; omega
    · obtain rfl : j = T.length := by omega
      have hge : ¬ ((T.length : Int) < (T.length : Int)) := by omega
      rw [List.take_length] at hO
      have hbs := run_bytes hO hT0.out
      have hfin := Lib.hid (World.grownBy.trans hg02.out (GrG.below hbr))
      have hbe := hb02.trans (hbr.mono (by have := hb02.size; omega))
      clear hO
      go_wp2
      go_ret
      exact ⟨rfl, hfin.out, hbe⟩
end Go.Proofs.YtiiiegflobihjaaGreat

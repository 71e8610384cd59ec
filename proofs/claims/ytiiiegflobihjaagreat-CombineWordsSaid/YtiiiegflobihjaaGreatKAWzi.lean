/- Texts of this claim, put together: JA JB. -/
import Derived.Test.YtiiiegflobihjaaGreatKAWzg
import Derived.Test.YtiiiegflobihjaaGreatKAWe
import Derived.Test.YtiiiegflobihjaaGreatKAWl
import Derived.Test.YtiiiegflobihjaaGreatKAWm

/- Words in order. Plain lists. -/
namespace Go.Proofs.YtiiiegflobihjaaGreat

theorem getD_past {α : Type} {l : List α} {d : α} {n : Nat} (h : l.length ≤ n) : l.getD n d = d := by rw [List.getD_eq_getElem?_getD, List.getElem?_eq_none h]; rfl
/-- All rounds of a word have seven numbers. -/
def W7 (w : List (List Int)) : Prop := ∀ r ∈ w, r.length = 7
theorem cmpL_app : ∀ {a b : List Int}, a.length = b.length → ∀ xs ys : List Int, cmpL (a ++ xs) (b ++ ys) = if cmpL a b = 0 then cmpL xs ys else cmpL a b
  | [], [], _, _, _ => by simp [cmpL]
  | [], _ :: _, h, _, _ => by cases h
  | _ :: _, [], h, _, _ => by cases h
  | a :: x, b :: y, h, xs, ys => by
    rw [List.cons_append, List.cons_append]
    by_cases e : cmpI a b = 0
    · rw [cmpL_hd e, cmpL_hd e, cmpL_app (by simpa using h)]
    · rw [cmpL_ne e, cmpL_ne e, if_neg e]
theorem flat_inj : ∀ {u v : List (List Int)}, W7 u → W7 v → u.flatten = v.flatten → u = v
  | [], [], _, _, _ => rfl
  | [], b :: v, _, hv, h => by
    have := hv b (by simp)
    have h2 := congrArg List.length h
    simp only [List.flatten_nil, List.flatten_cons, List.length_append, List.length_nil] at h2
    omega
  | a :: u, [], hu, _, h => by
    have := hu a (by simp)
    have h2 := congrArg List.length h
    simp only [List.flatten_nil, List.flatten_cons, List.length_append, List.length_nil] at h2
    omega
  | a :: u, b :: v, hu, hv, h => by
    rw [List.flatten_cons, List.flatten_cons] at h
    obtain ⟨h1, h2⟩ := List.append_inj h (by rw [hu a (by simp), hv b (by simp)])
    rw [h1, flat_inj (fun r hr => hu r (by simp [hr])) (fun r hr => hv r (by simp [hr])) h2]
theorem flat_map_inj : ∀ {l m : List (List (List Int))}, (∀ u ∈ l, W7 u) → (∀ u ∈ m, W7 u) → l.map List.flatten = m.map List.flatten → l = m
  | [], [], _, _, _ => rfl
  | [], _ :: _, _, _, h => by cases h
  | _ :: _, [], _, _, h => by cases h
  | a :: l, b :: m, hl, hm, h => by
    rw [List.map_cons, List.map_cons] at h
    injection h with h1 h2
    rw [flat_inj (hl a (by simp)) (hm b (by simp)) h1, flat_map_inj (fun u hu => hl u (by simp [hu])) (fun u hu => hm u (by simp [hu])) h2]
section
variable {ss : List (List (List Int))}
theorem wL_W7 (h8 : ∀ s ∈ ss, ∀ m ∈ s, m.length = 8) : ∀ (k s : Nat) (x : List (List Int)), x ∈ wL ss k s → W7 x
  | 0, s, x, h => by rw [wL, List.mem_singleton] at h; subst h; intro r hr; cases hr
  | k + 1, s, x, h => by
    rw [wL, List.mem_flatMap] at h
    obtain ⟨m, hm, h⟩ := h
    obtain ⟨y, hy, rfl⟩ := List.mem_map.1 h
    have hs : ss.getD s [] ∈ ss := by
      by_cases hl : s < ss.length
      · rw [getD_eq hl]; exact List.getElem_mem hl
      · rw [getD_past (by omega)] at hm; cases hm
    intro r hr
    rcases List.mem_cons.1 hr with rfl | hr
    · rw [rdOf, List.length_take, h8 _ hs m hm]; rfl
    · exact wL_W7 h8 k _ y hy r hr
/-- The words of an adversary ascend. -/
theorem wL_asc (h8 : ∀ s ∈ ss, ∀ m ∈ s, m.length = 8) (hA : ∀ s ∈ ss, AscL (s.map rdOf)) : ∀ k s : Nat, AscL ((wL ss k s).map List.flatten)
  | 0, s => by rw [wL]; simp [AscL]
  | k + 1, s => by
    by_cases hl : s < ss.length
    · have hs : ss.getD s [] ∈ ss := by rw [getD_eq hl]; exact List.getElem_mem hl
      have ha := hA _ hs
      rw [AscL, List.pairwise_map] at ha
      rw [wL, AscL, List.pairwise_map, List.pairwise_flatMap]
      refine ⟨fun m hm => ?_, List.Pairwise.imp_of_mem (fun {a b} hma hmb hab x hx y hy => ?_) ha⟩
      · have ih := wL_asc h8 hA k (mvTo m)
        rw [AscL, List.pairwise_map] at ih
        rw [List.pairwise_map]
        refine List.Pairwise.imp (fun {x y} hxy => ?_) ih
        rw [List.flatten_cons, List.flatten_cons, cmpL_app rfl, if_pos (cmpL_self _)]
        exact hxy
      · obtain ⟨x', _, rfl⟩ := List.mem_map.1 hx
        obtain ⟨y', _, rfl⟩ := List.mem_map.1 hy
        have hlen : (rdOf a).length = (rdOf b).length := by rw [rdOf, rdOf, List.length_take, List.length_take, h8 _ hs a hma, h8 _ hs b hmb]
        rw [List.flatten_cons, List.flatten_cons, cmpL_app hlen, if_neg (by omega)]
        exact hab
    · rw [wL, getD_past (by omega)]; simp [AscL]
end
/-- Equal neighbours are taken once. -/
def cmpw : List (List (List Int)) → List (List (List Int))
  | [] => []
  | [x] => [x]
  | x :: y :: r => if x = y then cmpw (y :: r) else x :: cmpw (y :: r)
theorem cmpw_flat : ∀ {l : List (List (List Int))}, (∀ u ∈ l, W7 u) → (cmpw l).map List.flatten = cmpc (l.map List.flatten)
  | [], _ => rfl
  | [x], _ => rfl
  | x :: y :: r, h => by
    have hx := h x (by simp)
    have hy := h y (by simp)
    have ih := cmpw_flat (l := y :: r) (fun u hu => h u (by simp [hu]))
    rw [List.map_cons] at ih
    rw [cmpw, List.map_cons, List.map_cons, cmpc]
    by_cases e : x = y
    · rw [if_pos e, if_pos (by rw [e]), ih]
    · rw [if_neg e, if_neg (fun h2 => e (flat_inj hx hy h2)), List.map_cons, ih]
theorem cmpw_mem : ∀ (l : List (List (List Int))) (z : List (List Int)), z ∈ cmpw l ↔ z ∈ l
  | [], z => by simp [cmpw]
  | [x], z => by simp [cmpw]
  | x :: y :: r, z => by
    rw [cmpw]
    have ih := cmpw_mem (y :: r) z
    by_cases e : x = y
    · rw [if_pos e, ih, e]; simp
    · rw [if_neg e, List.mem_cons, ih]; simp
/-- What is sorted and taken once is the ascending list of the same words. -/
theorem cmpw_sorted {l m q : List (List (List Int))} (h7 : ∀ u ∈ l, W7 u) (hq7 : ∀ u ∈ q, W7 u) (hp : m.Perm l) (hs : m.Pairwise fun a b => ¬ cmpL b.flatten a.flatten < 0) (hq : AscL (q.map List.flatten)) (hm : ∀ x, x ∈ q ↔ x ∈ l) : cmpw m = q := by
  have hm7 : ∀ u ∈ m, W7 u := fun u hu => h7 u (hp.mem_iff.1 hu)
  refine flat_map_inj (fun u hu => hm7 u ((cmpw_mem m u).1 hu)) hq7 ?_
  rw [cmpw_flat hm7]
  refine asc_unique (cmpc_asc (by rw [List.pairwise_map]; exact hs)) hq fun x => ?_
  rw [cmpc_mem, List.mem_map, List.mem_map]
  constructor
  · rintro ⟨u, hu, rfl⟩; exact ⟨u, (hm u).2 (hp.mem_iff.1 hu), rfl⟩
  · rintro ⟨u, hu, rfl⟩; exact ⟨u, hp.mem_iff.2 ((hm u).1 hu), rfl⟩
end Go.Proofs.YtiiiegflobihjaaGreat

/- ref15.Order: words in order. -/
namespace Go.Proofs.YtiiiegflobihjaaGreat
open Go.RowKit

set_option maxRecDepth 100000 in
set_option maxHeartbeats 6400000 in
theorem refGraphCompareG (n h0 h1 h2 h3 h4 m g0 g1 g2 g3 g4 : Int) (w : World) : Calls Tryz.prog 118 #[.agg #[.int .i64 n, .int .i64 h0, .int .i64 h1, .int .i64 h2, .int .i64 h3, .int .i64 h4], .agg #[.int .i64 m, .int .i64 g0, .int .i64 g1, .int .i64 g2, .int .i64 g3, .int .i64 g4]] w fun e w' => e = .returned (.int .i64 (cmpL [n, h0, h1, h2, h3, h4] [m, g0, g1, g2, g3, g4])) ∧ Below w.heap.size w w' ∧ w.drawn ≤ w'.drawn := by
  obtain ⟨E, hE⟩ : ∃ E, cmpL [n, h0, h1, h2, h3, h4] [m, g0, g1, g2, g3, g4] = E := ⟨_, rfl⟩
  rw [hE]
  by_cases l1 : n < m
  · have hE0 := Lib.hid (show E = -1 by rw [← hE, cmpL_ne (by rw [cmpI_lt l1]; decide), cmpI_lt l1])
    have l1' : decide (n < m) = true := decide_eq_true l1
    clear hE
    go_enter Tryz.func118, Tryz.ntmps118
    go_wp2
    go_ret
    exact ⟨ret_int hE0.out.symm, (((Below.refl w.heap.size w).alloc (Nat.le_refl _) _).alloc (by simp) _), (by first | exact Nat.le_refl _ | exact hd1 | exact Nat.le_add_right _ _ | exact Nat.le_trans (Nat.le_add_right _ _) (Nat.le_add_right _ _) | exact Nat.le_trans (Nat.le_trans (Nat.le_add_right _ _) (Nat.le_add_right _ _)) (Nat.le_add_right _ _))⟩
  · have l1' : decide (n < m) = false := decide_eq_false l1
    by_cases l2 : m < n
    · have hE0 := Lib.hid (show E = 1 by rw [← hE, cmpL_ne (by rw [cmpI_gt l2]; decide), cmpI_gt l2])
      have l2' : decide (m < n) = true := decide_eq_true l2
      clear hE
      go_enter Tryz.func118, Tryz.ntmps118
      go_wp2
      go_ret
      exact ⟨ret_int hE0.out.symm, (((Below.refl w.heap.size w).alloc (Nat.le_refl _) _).alloc (by simp) _), (by first | exact Nat.le_refl _ | exact hd1 | exact Nat.le_add_right _ _ | exact Nat.le_trans (Nat.le_add_right _ _) (Nat.le_add_right _ _) | exact Nat.le_trans (Nat.le_trans (Nat.le_add_right _ _) (Nat.le_add_right _ _)) (Nat.le_add_right _ _))⟩
    · have l2' : decide (m < n) = false := decide_eq_false l2
      have hE0 := Lib.hid (show cmpL [h0, h1, h2, h3, h4] [g0, g1, g2, g3, g4] = E by rw [← hE]; exact (cmpL_hd (cmpI_zero.2 (show n = m by omega))).symm)
      clear hE l1 l2
      go_enter Tryz.func118, Tryz.ntmps118
      go_wp2
      go_loopw [5] (fun iv wr => ∃ (k : Int) (dn : Nat), wr = ((w.alloc (.cells #[.int .i64 n, .int .i64 h0, .int .i64 h1, .int .i64 h2, .int .i64 h3, .int .i64 h4] 49)).alloc (.cells #[.int .i64 m, .int .i64 g0, .int .i64 g1, .int .i64 g2, .int .i64 g3, .int .i64 g4] 49)).drewN dn ∧ iv = .int .i64 k ∧ ((k = 0 ∧ Hid (cmpL [h0, h1, h2, h3, h4] [g0, g1, g2, g3, g4] = E)) ∨ (k = 1 ∧ Hid (cmpL [h1, h2, h3, h4] [g1, g2, g3, g4] = E)) ∨ (k = 2 ∧ Hid (cmpL [h2, h3, h4] [g2, g3, g4] = E)) ∨ (k = 3 ∧ Hid (cmpL [h3, h4] [g3, g4] = E)) ∨ (k = 4 ∧ Hid (cmpL [h4] [g4] = E)) ∨ (k = 5 ∧ Hid (cmpL [] [] = E)))) (fun iv _ => 5 - (intOf iv).toNat)
      case atStart => exact ⟨0, 0, (by first | rfl | simp), rfl, .inl ⟨rfl, hE0⟩⟩
      case round =>
        clear hE0
        obtain ⟨k, dn, rfl, rfl, hk⟩ := hrel
        rcases hk with ⟨rfl, hg⟩ | ⟨rfl, hg⟩ | ⟨rfl, hg⟩ | ⟨rfl, hg⟩ | ⟨rfl, hg⟩ | ⟨rfl, hg⟩
        · by_cases l1 : h0 < g0
          · have l1' : decide (h0 < g0) = true := decide_eq_true l1
            have hz := Lib.hid (cmpI_lt l1)
            clear l1
            go_wp2
            go_quiet (fail)
            go_wp2
            go_ret
            exact ⟨ret_int (by rw [← hg.out, cmpL_ne (by rw [hz.out]; decide), hz.out]), (by first | exact below_drewN (((Below.refl w.heap.size w).alloc (Nat.le_refl _) _).alloc (by simp) _) _ | exact below_drewN (below_drewN (((Below.refl w.heap.size w).alloc (Nat.le_refl _) _).alloc (by simp) _) _) _ | exact below_drewN (below_drewN (below_drewN (((Below.refl w.heap.size w).alloc (Nat.le_refl _) _).alloc (by simp) _) _) _) _), (by first | exact Nat.le_refl _ | exact hd1 | exact Nat.le_add_right _ _ | exact Nat.le_trans (Nat.le_add_right _ _) (Nat.le_add_right _ _) | exact Nat.le_trans (Nat.le_trans (Nat.le_add_right _ _) (Nat.le_add_right _ _)) (Nat.le_add_right _ _))⟩
          · have l1' : decide (h0 < g0) = false := decide_eq_false l1
            by_cases l2 : g0 < h0
            · have l2' : decide (g0 < h0) = true := decide_eq_true l2
              have hz := Lib.hid (cmpI_gt l2)
              clear l1 l2
              go_wp2
              go_quiet (fail)
              go_wp2
              go_quiet (fail)
              go_wp2
              go_ret
              exact ⟨ret_int (by rw [← hg.out, cmpL_ne (by rw [hz.out]; decide), hz.out]), (by first | exact below_drewN (((Below.refl w.heap.size w).alloc (Nat.le_refl _) _).alloc (by simp) _) _ | exact below_drewN (below_drewN (((Below.refl w.heap.size w).alloc (Nat.le_refl _) _).alloc (by simp) _) _) _ | exact below_drewN (below_drewN (below_drewN (((Below.refl w.heap.size w).alloc (Nat.le_refl _) _).alloc (by simp) _) _) _) _), (by first | exact Nat.le_refl _ | exact hd1 | exact Nat.le_add_right _ _ | exact Nat.le_trans (Nat.le_add_right _ _) (Nat.le_add_right _ _) | exact Nat.le_trans (Nat.le_trans (Nat.le_add_right _ _) (Nat.le_add_right _ _)) (Nat.le_add_right _ _))⟩
            · have l2' : decide (g0 < h0) = false := decide_eq_false l2
              have hz := Lib.hid (cmpI_zero.2 (show h0 = g0 by omega))
              clear l1 l2
              go_wp2
              go_quiet (fail)
              go_wp2
              go_quiet (fail)
              go_wp2
              go_roundw
              case rel => exact ⟨1, _, (by first | exact rfl | exact World.drewN_drewN _ _ _), rfl, .inr (.inl ⟨rfl, by show _ = _; rw [← hg.out, cmpL_hd hz.out]⟩)⟩
              case measure => simp [intOf]
        · by_cases l1 : h1 < g1
          · have l1' : decide (h1 < g1) = true := decide_eq_true l1
            have hz := Lib.hid (cmpI_lt l1)
            clear l1
            go_wp2
            go_quiet (fail)
            go_wp2
            go_ret
            exact ⟨ret_int (by rw [← hg.out, cmpL_ne (by rw [hz.out]; decide), hz.out]), (by first | exact below_drewN (((Below.refl w.heap.size w).alloc (Nat.le_refl _) _).alloc (by simp) _) _ | exact below_drewN (below_drewN (((Below.refl w.heap.size w).alloc (Nat.le_refl _) _).alloc (by simp) _) _) _ | exact below_drewN (below_drewN (below_drewN (((Below.refl w.heap.size w).alloc (Nat.le_refl _) _).alloc (by simp) _) _) _) _), (by first | exact Nat.le_refl _ | exact hd1 | exact Nat.le_add_right _ _ | exact Nat.le_trans (Nat.le_add_right _ _) (Nat.le_add_right _ _) | exact Nat.le_trans (Nat.le_trans (Nat.le_add_right _ _) (Nat.le_add_right _ _)) (Nat.le_add_right _ _))⟩
          · have l1' : decide (h1 < g1) = false := decide_eq_false l1
            by_cases l2 : g1 < h1
            · have l2' : decide (g1 < h1) = true := decide_eq_true l2
              have hz := Lib.hid (cmpI_gt l2)
              clear l1 l2
              go_wp2
              go_quiet (fail)
              go_wp2
              go_quiet (fail)
              go_wp2
              go_ret
              exact ⟨ret_int (by rw [← hg.out, cmpL_ne (by rw [hz.out]; decide), hz.out]), (by first | exact below_drewN (((Below.refl w.heap.size w).alloc (Nat.le_refl _) _).alloc (by simp) _) _ | exact below_drewN (below_drewN (((Below.refl w.heap.size w).alloc (Nat.le_refl _) _).alloc (by simp) _) _) _ | exact below_drewN (below_drewN (below_drewN (((Below.refl w.heap.size w).alloc (Nat.le_refl _) _).alloc (by simp) _) _) _) _), (by first | exact Nat.le_refl _ | exact hd1 | exact Nat.le_add_right _ _ | exact Nat.le_trans (Nat.le_add_right _ _) (Nat.le_add_right _ _) | exact Nat.le_trans (Nat.le_trans (Nat.le_add_right _ _) (Nat.le_add_right _ _)) (Nat.le_add_right _ _))⟩
            · have l2' : decide (g1 < h1) = false := decide_eq_false l2
              have hz := Lib.hid (cmpI_zero.2 (show h1 = g1 by omega))
              clear l1 l2
              go_wp2
              go_quiet (fail)
              go_wp2
              go_quiet (fail)
              go_wp2
              go_roundw
              case rel => exact ⟨2, _, (by first | exact rfl | exact World.drewN_drewN _ _ _), rfl, .inr (.inr (.inl ⟨rfl, by show _ = _; rw [← hg.out, cmpL_hd hz.out]⟩))⟩
              case measure => simp [intOf]
        · by_cases l1 : h2 < g2
          · have l1' : decide (h2 < g2) = true := decide_eq_true l1
            have hz := Lib.hid (cmpI_lt l1)
            clear l1
            go_wp2
            go_quiet (fail)
            go_wp2
            go_ret
            exact ⟨ret_int (by rw [← hg.out, cmpL_ne (by rw [hz.out]; decide), hz.out]), (by first | exact below_drewN (((Below.refl w.heap.size w).alloc (Nat.le_refl _) _).alloc (by simp) _) _ | exact below_drewN (below_drewN (((Below.refl w.heap.size w).alloc (Nat.le_refl _) _).alloc (by simp) _) _) _ | exact below_drewN (below_drewN (below_drewN (((Below.refl w.heap.size w).alloc (Nat.le_refl _) _).alloc (by simp) _) _) _) _), (by first | exact Nat.le_refl _ | exact hd1 | exact Nat.le_add_right _ _ | exact Nat.le_trans (Nat.le_add_right _ _) (Nat.le_add_right _ _) | exact Nat.le_trans (Nat.le_trans (Nat.le_add_right _ _) (Nat.le_add_right _ _)) (Nat.le_add_right _ _))⟩
          · have l1' : decide (h2 < g2) = false := decide_eq_false l1
            by_cases l2 : g2 < h2
            · have l2' : decide (g2 < h2) = true := decide_eq_true l2
              have hz := Lib.hid (cmpI_gt l2)
              clear l1 l2
              go_wp2
              go_quiet (fail)
              go_wp2
              go_quiet (fail)
              go_wp2
              go_ret
              exact ⟨ret_int (by rw [← hg.out, cmpL_ne (by rw [hz.out]; decide), hz.out]), (by first | exact below_drewN (((Below.refl w.heap.size w).alloc (Nat.le_refl _) _).alloc (by simp) _) _ | exact below_drewN (below_drewN (((Below.refl w.heap.size w).alloc (Nat.le_refl _) _).alloc (by simp) _) _) _ | exact below_drewN (below_drewN (below_drewN (((Below.refl w.heap.size w).alloc (Nat.le_refl _) _).alloc (by simp) _) _) _) _), (by first | exact Nat.le_refl _ | exact hd1 | exact Nat.le_add_right _ _ | exact Nat.le_trans (Nat.le_add_right _ _) (Nat.le_add_right _ _) | exact Nat.le_trans (Nat.le_trans (Nat.le_add_right _ _) (Nat.le_add_right _ _)) (Nat.le_add_right _ _))⟩
            · have l2' : decide (g2 < h2) = false := decide_eq_false l2
              have hz := Lib.hid (cmpI_zero.2 (show h2 = g2 by omega))
              clear l1 l2
              go_wp2
              go_quiet (fail)
              go_wp2
              go_quiet (fail)
              go_wp2
              go_roundw
              case rel => exact ⟨3, _, (by first | exact rfl | exact World.drewN_drewN _ _ _), rfl, .inr (.inr (.inr (.inl ⟨rfl, by show _ = _; rw [← hg.out, cmpL_hd hz.out]⟩)))⟩
              case measure => simp [intOf]
        · by_cases l1 : h3 < g3
          · have l1' : decide (h3 < g3) = true := decide_eq_true l1
            have hz := Lib.hid (cmpI_lt l1)
            clear l1
            go_wp2
            go_quiet (fail)
            go_wp2
            go_ret
            exact ⟨ret_int (by rw [← hg.out, cmpL_ne (by rw [hz.out]; decide), hz.out]), (by first | exact below_drewN (((Below.refl w.heap.size w).alloc (Nat.le_refl _) _).alloc (by simp) _) _ | exact below_drewN (below_drewN (((Below.refl w.heap.size w).alloc (Nat.le_refl _) _).alloc (by simp) _) _) _ | exact below_drewN (below_drewN (below_drewN (((Below.refl w.heap.size w).alloc (Nat.le_refl _) _).alloc (by simp) _) _) _) _), (by first | exact Nat.le_refl _ | exact hd1 | exact Nat.le_add_right _ _ | exact Nat.le_trans (Nat.le_add_right _ _) (Nat.le_add_right _ _) | exact Nat.le_trans (Nat.le_trans (Nat.le_add_right _ _) (Nat.le_add_right _ _)) (Nat.le_add_right _ _))⟩
          · have l1' : decide (h3 < g3) = false := decide_eq_false l1
            by_cases l2 : g3 < h3
            · have l2' : decide (g3 < h3) = true := decide_eq_true l2
              have hz := Lib.hid (cmpI_gt l2)
              clear l1 l2
              go_wp2
              go_quiet (fail)
              go_wp2
              go_quiet (fail)
              go_wp2
              go_ret
              exact ⟨ret_int (by rw [← hg.out, cmpL_ne (by rw [hz.out]; decide), hz.out]), (by first | exact below_drewN (((Below.refl w.heap.size w).alloc (Nat.le_refl _) _).alloc (by simp) _) _ | exact below_drewN (below_drewN (((Below.refl w.heap.size w).alloc (Nat.le_refl _) _).alloc (by simp) _) _) _ | exact below_drewN (below_drewN (below_drewN (((Below.refl w.heap.size w).alloc (Nat.le_refl _) _).alloc (by simp) _) _) _) _), (by first | exact Nat.le_refl _ | exact hd1 | exact Nat.le_add_right _ _ | exact Nat.le_trans (Nat.le_add_right _ _) (Nat.le_add_right _ _) | exact Nat.le_trans (Nat.le_trans (Nat.le_add_right _ _) (Nat.le_add_right _ _)) (Nat.le_add_right _ _))⟩
            · have l2' : decide (g3 < h3) = false := decide_eq_false l2
              have hz := Lib.hid (cmpI_zero.2 (show h3 = g3 by omega))
              clear l1 l2
              go_wp2
              go_quiet (fail)
              go_wp2
              go_quiet (fail)
              go_wp2
              go_roundw
              case rel => exact ⟨4, _, (by first | exact rfl | exact World.drewN_drewN _ _ _), rfl, .inr (.inr (.inr (.inr (.inl ⟨rfl, by show _ = _; rw [← hg.out, cmpL_hd hz.out]⟩))))⟩
              case measure => simp [intOf]
        · by_cases l1 : h4 < g4
          · have l1' : decide (h4 < g4) = true := decide_eq_true l1
            have hz := Lib.hid (cmpI_lt l1)
            clear l1
            go_wp2
            go_quiet (fail)
            go_wp2
            go_ret
            exact ⟨ret_int (by rw [← hg.out, cmpL_ne (by rw [hz.out]; decide), hz.out]), (by first | exact below_drewN (((Below.refl w.heap.size w).alloc (Nat.le_refl _) _).alloc (by simp) _) _ | exact below_drewN (below_drewN (((Below.refl w.heap.size w).alloc (Nat.le_refl _) _).alloc (by simp) _) _) _ | exact below_drewN (below_drewN (below_drewN (((Below.refl w.heap.size w).alloc (Nat.le_refl _) _).alloc (by simp) _) _) _) _), (by first | exact Nat.le_refl _ | exact hd1 | exact Nat.le_add_right _ _ | exact Nat.le_trans (Nat.le_add_right _ _) (Nat.le_add_right _ _) | exact Nat.le_trans (Nat.le_trans (Nat.le_add_right _ _) (Nat.le_add_right _ _)) (Nat.le_add_right _ _))⟩
          · have l1' : decide (h4 < g4) = false := decide_eq_false l1
            by_cases l2 : g4 < h4
            · have l2' : decide (g4 < h4) = true := decide_eq_true l2
              have hz := Lib.hid (cmpI_gt l2)
              clear l1 l2
              go_wp2
              go_quiet (fail)
              go_wp2
              go_quiet (fail)
              go_wp2
              go_ret
              exact ⟨ret_int (by rw [← hg.out, cmpL_ne (by rw [hz.out]; decide), hz.out]), (by first | exact below_drewN (((Below.refl w.heap.size w).alloc (Nat.le_refl _) _).alloc (by simp) _) _ | exact below_drewN (below_drewN (((Below.refl w.heap.size w).alloc (Nat.le_refl _) _).alloc (by simp) _) _) _ | exact below_drewN (below_drewN (below_drewN (((Below.refl w.heap.size w).alloc (Nat.le_refl _) _).alloc (by simp) _) _) _) _), (by first | exact Nat.le_refl _ | exact hd1 | exact Nat.le_add_right _ _ | exact Nat.le_trans (Nat.le_add_right _ _) (Nat.le_add_right _ _) | exact Nat.le_trans (Nat.le_trans (Nat.le_add_right _ _) (Nat.le_add_right _ _)) (Nat.le_add_right _ _))⟩
            · have l2' : decide (g4 < h4) = false := decide_eq_false l2
              have hz := Lib.hid (cmpI_zero.2 (show h4 = g4 by omega))
              clear l1 l2
              go_wp2
              go_quiet (fail)
              go_wp2
              go_quiet (fail)
              go_wp2
              go_roundw
              case rel => exact ⟨5, _, (by first | exact rfl | exact World.drewN_drewN _ _ _), rfl, .inr (.inr (.inr (.inr (.inr (⟨rfl, by show _ = _; rw [← hg.out, cmpL_hd hz.out]⟩)))))⟩
              case measure => simp [intOf]
        · go_wp2
          go_ret
          exact ⟨ret_int hg.out, (by first | exact below_drewN (((Below.refl w.heap.size w).alloc (Nat.le_refl _) _).alloc (by simp) _) _ | exact below_drewN (below_drewN (((Below.refl w.heap.size w).alloc (Nat.le_refl _) _).alloc (by simp) _) _) _ | exact below_drewN (below_drewN (below_drewN (((Below.refl w.heap.size w).alloc (Nat.le_refl _) _).alloc (by simp) _) _) _) _), (by first | exact Nat.le_refl _ | exact hd1 | exact Nat.le_add_right _ _ | exact Nat.le_trans (Nat.le_add_right _ _) (Nat.le_add_right _ _) | exact Nat.le_trans (Nat.le_trans (Nat.le_add_right _ _) (Nat.le_add_right _ _)) (Nat.le_add_right _ _))⟩
set_option maxRecDepth 100000 in
set_option maxHeartbeats 3200000 in
theorem refRoundCompareG (n h0 h1 h2 h3 h4 f m g0 g1 g2 g3 g4 g : Int) (w : World) : Calls Tryz.prog 90 #[.agg #[.int .i64 n, .int .i64 h0, .int .i64 h1, .int .i64 h2, .int .i64 h3, .int .i64 h4, .int .i64 f], .agg #[.int .i64 m, .int .i64 g0, .int .i64 g1, .int .i64 g2, .int .i64 g3, .int .i64 g4, .int .i64 g]] w fun e w' => e = .returned (.int .i64 (cmpL [n, h0, h1, h2, h3, h4, f] [m, g0, g1, g2, g3, g4, g])) ∧ Below w.heap.size w w' ∧ w.drawn ≤ w'.drawn := by
  have hb : Below w.heap.size w ((w.alloc (.cells #[.int .i64 n, .int .i64 h0, .int .i64 h1, .int .i64 h2, .int .i64 h3, .int .i64 h4, .int .i64 f] 51)).alloc (.cells #[.int .i64 m, .int .i64 g0, .int .i64 g1, .int .i64 g2, .int .i64 g3, .int .i64 g4, .int .i64 g] 51)) := ((Below.refl _ _).alloc (Nat.le_refl _) _).alloc (by simp) _
  have HG := fun W => refGraphCompareG n h0 h1 h2 h3 h4 m g0 g1 g2 g3 g4 W
  have hs0 : ((w.alloc (.cells #[.int .i64 n, .int .i64 h0, .int .i64 h1, .int .i64 h2, .int .i64 h3, .int .i64 h4, .int .i64 f] 51)).alloc (.cells #[.int .i64 m, .int .i64 g0, .int .i64 g1, .int .i64 g2, .int .i64 g3, .int .i64 g4, .int .i64 g] 51)).heap[w.heap.size]? = some (.cells #[.int .i64 n, .int .i64 h0, .int .i64 h1, .int .i64 h2, .int .i64 h3, .int .i64 h4, .int .i64 f] 51) := (Below.heap_alloc _ _ _ (by simp)).trans (heap_alloc_new w _)
  have hs1 : ((w.alloc (.cells #[.int .i64 n, .int .i64 h0, .int .i64 h1, .int .i64 h2, .int .i64 h3, .int .i64 h4, .int .i64 f] 51)).alloc (.cells #[.int .i64 m, .int .i64 g0, .int .i64 g1, .int .i64 g2, .int .i64 g3, .int .i64 g4, .int .i64 g] 51)).heap[w.heap.size + 1]? = some (.cells #[.int .i64 m, .int .i64 g0, .int .i64 g1, .int .i64 g2, .int .i64 g3, .int .i64 g4, .int .i64 g] 51) := by have := heap_alloc_new (w.alloc (.cells #[.int .i64 n, .int .i64 h0, .int .i64 h1, .int .i64 h2, .int .i64 h3, .int .i64 h4, .int .i64 f] 51)) (.cells #[.int .i64 m, .int .i64 g0, .int .i64 g1, .int .i64 g2, .int .i64 g3, .int .i64 g4, .int .i64 g] 51); rwa [World.size_alloc] at this
  by_cases hg : [n, h0, h1, h2, h3, h4] = [m, g0, g1, g2, g3, g4]
  · have hE := Lib.hid (cmp7_2 (f := f) (g := g) hg)
    simp only [cmpL_zero.2 hg] at HG
    replace HG := Lib.hid HG
    clear hg
    replace hs0 := Lib.hid hs0; replace hs1 := Lib.hid hs1
    by_cases l1 : f < g
    · have l1' : decide (f < g) = true := decide_eq_true l1
      have hc := Lib.hid (cmpI_lt l1)
      clear l1
      go_enter Tryz.func90, Tryz.ntmps90
      go_wp2_with fail
      refine (HG.out _).mono ?_; rintro e w1 ⟨rfl, hb1, hd1⟩
      have k0 := (hb1.block _ (by simp; omega)).trans hs0.out
      have k1 := (hb1.block _ (by simp)).trans hs1.out
      have c0 : w1.cell? ⟨w.heap.size, 6, none⟩ = some (.int .i64 f) := by rw [cell_of_row _ _ 6 _ _ _ k0]; rfl
      have c1 : w1.cell? ⟨w.heap.size + 1, 6, none⟩ = some (.int .i64 g) := by rw [cell_of_row _ _ 6 _ _ _ k1]; rfl
      go_wp2
      go_ret
      exact ⟨ret_int (by rw [hE.out, hc.out]), bt hb hb1 hb.size, (by first | exact Nat.le_refl _ | exact hd1 | exact Nat.le_add_right _ _ | exact Nat.le_trans (Nat.le_add_right _ _) (Nat.le_add_right _ _) | exact Nat.le_trans (Nat.le_trans (Nat.le_add_right _ _) (Nat.le_add_right _ _)) (Nat.le_add_right _ _))⟩
    · have l1' : decide (f < g) = false := decide_eq_false l1
      by_cases l2 : g < f
      · have l2' : decide (g < f) = true := decide_eq_true l2
        have hc := Lib.hid (cmpI_gt l2)
        clear l1 l2
        go_enter Tryz.func90, Tryz.ntmps90
        go_wp2_with fail
        refine (HG.out _).mono ?_; rintro e w1 ⟨rfl, hb1, hd1⟩
        have k0 := (hb1.block _ (by simp; omega)).trans hs0.out
        have k1 := (hb1.block _ (by simp)).trans hs1.out
        have c0 : w1.cell? ⟨w.heap.size, 6, none⟩ = some (.int .i64 f) := by rw [cell_of_row _ _ 6 _ _ _ k0]; rfl
        have c1 : w1.cell? ⟨w.heap.size + 1, 6, none⟩ = some (.int .i64 g) := by rw [cell_of_row _ _ 6 _ _ _ k1]; rfl
        go_wp2
        go_ret
        exact ⟨ret_int (by rw [hE.out, hc.out]), bt hb hb1 hb.size, (by first | exact Nat.le_refl _ | exact hd1 | exact Nat.le_add_right _ _ | exact Nat.le_trans (Nat.le_add_right _ _) (Nat.le_add_right _ _) | exact Nat.le_trans (Nat.le_trans (Nat.le_add_right _ _) (Nat.le_add_right _ _)) (Nat.le_add_right _ _))⟩
      · have l2' : decide (g < f) = false := decide_eq_false l2
        have hc := Lib.hid (cmpI_zero.2 (show f = g by omega))
        clear l1 l2
        go_enter Tryz.func90, Tryz.ntmps90
        go_wp2_with fail
        refine (HG.out _).mono ?_; rintro e w1 ⟨rfl, hb1, hd1⟩
        have k0 := (hb1.block _ (by simp; omega)).trans hs0.out
        have k1 := (hb1.block _ (by simp)).trans hs1.out
        have c0 : w1.cell? ⟨w.heap.size, 6, none⟩ = some (.int .i64 f) := by rw [cell_of_row _ _ 6 _ _ _ k0]; rfl
        have c1 : w1.cell? ⟨w.heap.size + 1, 6, none⟩ = some (.int .i64 g) := by rw [cell_of_row _ _ 6 _ _ _ k1]; rfl
        go_wp2
        go_ret
        exact ⟨ret_int (by rw [hE.out, hc.out]), bt hb hb1 hb.size, (by first | exact Nat.le_refl _ | exact hd1 | exact Nat.le_add_right _ _ | exact Nat.le_trans (Nat.le_add_right _ _) (Nat.le_add_right _ _) | exact Nat.le_trans (Nat.le_trans (Nat.le_add_right _ _) (Nat.le_add_right _ _)) (Nat.le_add_right _ _))⟩
  · have hE := Lib.hid (cmp7_1 (f := f) (g := g) hg)
    obtain ⟨c, hc⟩ : ∃ c, cmpL [n, h0, h1, h2, h3, h4] [m, g0, g1, g2, g3, g4] = c := ⟨_, rfl⟩
    rw [hc] at hE
    have hz : c ≠ 0 := fun k => hg (cmpL_zero.1 (by rw [hc]; exact k))
    simp only [hc] at HG
    replace HG := Lib.hid HG
    have hz' : (c != 0) = true := by simpa using hz
    clear hg hc hz hs0 hs1
    go_enter Tryz.func90, Tryz.ntmps90
    go_wp2_with fail
    refine (HG.out _).mono ?_; rintro e w1 ⟨rfl, hb1, hd1⟩
    go_wp2
    go_ret
    exact ⟨ret_int hE.out.symm, bt hb hb1 hb.size, (by first | exact Nat.le_refl _ | exact hd1 | exact Nat.le_add_right _ _ | exact Nat.le_trans (Nat.le_add_right _ _) (Nat.le_add_right _ _) | exact Nat.le_trans (Nat.le_trans (Nat.le_add_right _ _) (Nat.le_add_right _ _)) (Nat.le_add_right _ _))⟩


/-- New blocks and draws only. -/
def GrW (w w' : World) : Prop := Below w.heap.size w w' ∧ w.drawn ≤ w'.drawn
theorem GrW.refl (w : World) : GrW w w := ⟨Below.refl _ _, Nat.le_refl _⟩
theorem GrW.trans {a b c : World} (h : GrW a b) (g : GrW b c) : GrW a c := ⟨btt h.1 g.1, Nat.le_trans h.2 g.2⟩
theorem wp_region_gw {P : Program} {id : Nat} {Q : Exit → Act → World → Prop} {a : Act} {w : World} {l : List Oper} (hm : P.follows .mixedOrders = true) (hB : Region.lexB .any l.toArray = true)
    (h : WQ P l.toArray (GrW w) (fun a' => ∀ w', GrW w w' → Q .normal a' w') l a) :
    (Code.region id l.toArray true).wp P Q a w :=
  wp_region_quiet (C := GrW w) hm hB ⟨below_drewN (Below.refl _ w) 1, Nat.le_add_right _ _⟩ (by simpa using h.out)
theorem drop_flat {xs : List (List Int)} {i : Nat} {x : List Int} (h : i < xs.length) (hx : xs.getD i [] = x) : (xs.drop i).flatten = x ++ (xs.drop (i + 1)).flatten := by
  rw [List.drop_eq_getElem_cons h, List.flatten_cons, ← hx, getD_eq h]
theorem drop_end {xs : List (List Int)} {i : Nat} (h : xs.length ≤ i) : (xs.drop i).flatten = [] := by rw [List.drop_eq_nil_of_le h]; rfl

set_option maxRecDepth 100000 in
set_option maxHeartbeats 3200000 in
theorem orderC {w : World} {u v : Value} {xs ys : List (List Int)} (hx : KS 7 w u xs) (hy : KS 7 w v ys) :
    Calls Tryz.prog 56 #[u, v] w fun e w' => e = .returned (.int .i64 (cmpL xs.flatten ys.flatten)) ∧ GrW w w' := by
  have hmx : Tryz.prog.follows .mixedOrders = true := by kernel_rfl
  obtain ⟨xa, xc, xb, xo, rfl, hxa, hxc, hxl⟩ := hx
  obtain ⟨ya, yc, yb, yo, rfl, hya, hyc, hyl⟩ := hy
  obtain ⟨E, hE⟩ : ∃ E, cmpL xs.flatten ys.flatten = E := ⟨_, rfl⟩
  rw [hE]
  have h0 : Hid (cmpL (xs.drop 0).flatten (ys.drop 0).flatten = E) := hE
  replace hxc := Lib.hid hxc
  replace hyc := Lib.hid hyc
  clear hE
  go_enter Tryz.func56, Tryz.ntmps56
  go_wp2_with fail
  go_loopw [5] (fun iv wr => ∃ i : Nat, iv = .int .i64 i ∧ i ≤ xs.length ∧ i ≤ ys.length ∧ Hid (cmpL (xs.drop i).flatten (ys.drop i).flatten = E) ∧ GrW w wr) (fun iv _ => xs.length - (intOf iv).toNat)
  case atStart => exact ⟨0, rfl, by omega, by omega, h0, GrW.refl w⟩
  case round =>
    clear h0
    obtain ⟨i, rfl, hi, hj, ht, hgr⟩ := hrel
    by_cases hlt : i < xs.length
    · have d1 : decide ((i : Int) < (xs.length : Int)) = true := decide_eq_true (by omega)
      by_cases hlu : i < ys.length
      · have d2 : decide ((i : Int) < (ys.length : Int)) = true := decide_eq_true (by omega)
        obtain rfl := hxa (by omega)
        obtain rfl := hya (by omega)
        obtain ⟨hx8, hxi⟩ := hxc.out i hlt
        obtain ⟨hy8, hyi⟩ := hyc.out i hlu
        obtain ⟨x, hx⟩ : ∃ x, xs.getD i [] = x := ⟨_, rfl⟩
        obtain ⟨y, hy⟩ : ∃ y, ys.getD i [] = y := ⟨_, rfl⟩
        rw [hx] at hx8 hxi
        rw [hy] at hy8 hyi
        have ht2 := ht.out
        rw [drop_flat hlt hx, drop_flat hlu hy, cmpL_app (by rw [hx8, hy8])] at ht2
        replace ht2 := Lib.hid ht2
        obtain ⟨x0, x1, x2, x3, x4, x5, x6, rfl⟩ := seven hx8
        obtain ⟨y0, y1, y2, y3, y4, y5, y6, rfl⟩ := seven hy8
        have HC := Lib.hid (fun W => refRoundCompareG x0 x1 x2 x3 x4 x5 x6 y0 y1 y2 y3 y4 y5 y6 W)
        obtain ⟨z, hz⟩ : ∃ z, cmpL [x0, x1, x2, x3, x4, x5, x6] [y0, y1, y2, y3, y4, y5, y6] = z := ⟨_, rfl⟩
        rw [hz] at HC ht2
        have hf := Lib.hid (fun wq (hC : GrW wr wq) => And.intro (hxi.keep (btt hgr.1 hC.1)).all7 (hyi.keep (btt hgr.1 hC.1)).all7)
        clear hxi hyi hx8 hy8 hx hy hz ht
        by_cases hz0 : z = 0
        · have hn : Hid (cmpL (xs.drop (i + 1)).flatten (ys.drop (i + 1)).flatten = E) := by
            have := ht2.out
            rwa [if_pos hz0] at this
          subst hz0
          clear ht2
          go_wp2_with fail
          refine wp_region_gw hmx (by kernel_rfl) ?_
          repeat (refine WQ.step (fun K hK => ?_)
                  go_simp
                  first
                    | (refine hK _ ?_; clear hK K)
                    | (apply Exists.intro
                       refine ⟨fun wq hC => ?_, hK _ ?_⟩
                       · (first | with_reducible rfl | (obtain ⟨⟨e0, e1, e2, e3, e4, e5, e6⟩, f0, f1, f2, f3, f4, f5, f6⟩ := hf.out wq hC; go_simp; first | done | with_reducible rfl | with_reducible exact ⟨rfl, rfl⟩))
                       clear hK K))
          (refine WQ.step (fun K hK => ?_)
           go_simp
           first
             | (refine hK _ ?_; clear hK K)
             | (apply Exists.intro
                refine ⟨fun wq hC => ?_, hK _ ?_⟩
                · (refine (HC.out wq).mono ?_; rintro e w' ⟨rfl, hb, hd⟩; exact ⟨rfl, hC.trans ⟨hb, hd⟩⟩)
                clear hK K))
          repeat (refine WQ.step (fun K hK => ?_)
                  go_simp
                  first
                    | (refine hK _ ?_; clear hK K)
                    | (apply Exists.intro
                       refine ⟨fun wq hC => ?_, hK _ ?_⟩
                       · (first | with_reducible rfl | (go_simp; first | done | with_reducible rfl | with_reducible exact ⟨rfl, rfl⟩))
                       clear hK K))
          refine WQ.nil ?_
          intro w4 hb4
          have hbf := hgr.trans hb4
          go_wp2_with fail
          go_roundw
          case rel => exact ⟨i + 1, by go_num, hlt, hlu, hn, hbf⟩
          case measure => simp [intOf]; omega
        · have hn : Hid (z = E) := by
            have := ht2.out
            rwa [if_neg hz0] at this
          have hz1 : (z != 0) = true := by simpa using hz0
          clear ht2
          go_wp2_with fail
          refine wp_region_gw hmx (by kernel_rfl) ?_
          repeat (refine WQ.step (fun K hK => ?_)
                  go_simp
                  first
                    | (refine hK _ ?_; clear hK K)
                    | (apply Exists.intro
                       refine ⟨fun wq hC => ?_, hK _ ?_⟩
                       · (first | with_reducible rfl | (obtain ⟨⟨e0, e1, e2, e3, e4, e5, e6⟩, f0, f1, f2, f3, f4, f5, f6⟩ := hf.out wq hC; go_simp; first | done | with_reducible rfl | with_reducible exact ⟨rfl, rfl⟩))
                       clear hK K))
          (refine WQ.step (fun K hK => ?_)
           go_simp
           first
             | (refine hK _ ?_; clear hK K)
             | (apply Exists.intro
                refine ⟨fun wq hC => ?_, hK _ ?_⟩
                · (refine (HC.out wq).mono ?_; rintro e w' ⟨rfl, hb, hd⟩; exact ⟨rfl, hC.trans ⟨hb, hd⟩⟩)
                clear hK K))
          repeat (refine WQ.step (fun K hK => ?_)
                  go_simp
                  first
                    | (refine hK _ ?_; clear hK K)
                    | (apply Exists.intro
                       refine ⟨fun wq hC => ?_, hK _ ?_⟩
                       · (first | with_reducible rfl | (go_simp; first | done | with_reducible rfl | with_reducible exact ⟨rfl, rfl⟩))
                       clear hK K))
          refine WQ.nil ?_
          intro w4 hb4
          have hbf := hgr.trans hb4
          go_wp2_with fail
          go_ret
          exact ⟨ret_int hn.out, hbf⟩
      · have d2 : decide ((i : Int) < (ys.length : Int)) = false := decide_eq_false (by omega)
        have hn : Hid ((1 : Int) = E) := by
          have := ht.out
          obtain ⟨hx8, _⟩ := hxc.out i hlt
          obtain ⟨x, hx⟩ : ∃ x, xs.getD i [] = x := ⟨_, rfl⟩
          rw [hx] at hx8
          obtain ⟨x0, x1, x2, x3, x4, x5, x6, rfl⟩ := seven hx8
          rw [drop_flat hlt hx, drop_end (xs := ys) (by omega)] at this
          exact this
        have n3 : ¬ xs.length < ys.length := by omega
        have n4 : ys.length < xs.length := by omega
        clear ht
        go_wp2_with fail
        go_ret
        exact ⟨ret_int hn.out, hgr⟩
    · have d1 : decide ((i : Int) < (xs.length : Int)) = false := decide_eq_false (by omega)
      by_cases hlu : xs.length < ys.length
      · have hn : Hid ((-1 : Int) = E) := by
          have := ht.out
          obtain ⟨hy8, _⟩ := hyc.out i (by omega)
          obtain ⟨y, hy⟩ : ∃ y, ys.getD i [] = y := ⟨_, rfl⟩
          rw [hy] at hy8
          obtain ⟨y0, y1, y2, y3, y4, y5, y6, rfl⟩ := seven hy8
          rw [drop_flat (xs := ys) (by omega) hy, drop_end (xs := xs) (by omega)] at this
          exact this
        clear ht
        go_wp2_with fail
        go_ret
        exact ⟨ret_int hn.out, hgr⟩
      · have hn : Hid ((0 : Int) = E) := by
          have := ht.out
          rw [drop_end (xs := ys) (by omega), drop_end (xs := xs) (by omega)] at this
          exact this
        have n4 : ¬ ys.length < xs.length := by omega
        clear ht
        go_wp2_with fail
        go_ret
        exact ⟨ret_int hn.out, hgr⟩
end Go.Proofs.YtiiiegflobihjaaGreat

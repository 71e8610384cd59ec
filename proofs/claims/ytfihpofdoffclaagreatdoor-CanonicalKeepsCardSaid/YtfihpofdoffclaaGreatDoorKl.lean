/- Texts of this claim, put together: E3 E4. -/
import Derived.Test.YtfihpofdoffclaaGreatDoorKk
import Derived.Test.YtfihpofdoffclaaGreatDoorKg

/- canonical.canonical. -/
namespace Go.Proofs.YtfihpofdoffclaaGreatDoor
open Go.RowKit Go.ChangeMaps Go.MapKept

theorem OI.only {D : Nat → Prop} {w w' : World} {B : Nat} {v : Value} {n : Nat} {xs : List Int} (h : OI w B v n xs) (ho : Only D w w') (hd : ∀ k, v.ownBlock = some k → ¬ D k) : OI w' B v n xs := by
  refine ⟨h.1, ?_⟩
  rcases h.2 with h' | ⟨g, cap, cur, h1, h2, h3, h4⟩
  · exact .inl h'
  · exact .inr ⟨g, cap, cur, h1, h2, (ho.same g (Array.getElem?_eq_some_iff.1 h3).1 (hd g (by rw [h1]; rfl))).trans h3, h4⟩
theorem row_free {w : World} {b : Nat} {cs : Array Value} {t : TypeId} (h : w.heap[b]? = some (.cells cs t)) (j : Nat) : w.frozen? ⟨b, j, none⟩ = false := by simp [World.frozen?, h]
theorem two_setCell {w : World} {b : Nat} {x y u : Value} {t : TypeId} (h : w.heap[b]? = some (.cells #[x, y] t)) : (w.setCell ⟨b, 1, none⟩ u).heap[b]? = some (.cells #[x, u] t) := by
  rw [heap_setCell_same w b 1 _ t u h]; rfl
theorem take_succ_snoc {α : Type} {xs : List α} {i : Nat} (h : i < xs.length) {d x : α} (hx : xs.getD i d = x) : xs.take i ++ [x] = xs.take (i + 1) := by rw [take_snoc h d, hx]
set_option maxRecDepth 100000 in
set_option maxHeartbeats 6400000 in
theorem canonW {w : World} {v : Value} {n : Int} {ss : List (List (List Int))} {L : List Nat} {F G : Nat} {R : List Nat × List (Nat × List Int)} (hA : AdvV w v n ss) (hO : ClsOK ss)
    (hL : clsGo ss (dd [] (allRd ss)) F (List.replicate ss.length 0) 0 = some L) (hLl : L.length = ss.length) (hLb : ∀ x ∈ L, x ≤ 1000000) (hR : srch (keyL L) ss G 0 ([0], []) = some R) (hRl : R.1.length ≤ 1000) (hRb : ∀ x ∈ R.1, x < ss.length) :
    Calls Tryz.prog 51 #[v] w fun e w' => ∃ u, e = .returned u ∧ OwAdv w' u n (formC ss L R.1) ∧ Below w.heap.size w w' := by
  obtain ⟨sv, rfl, hK⟩ := hA
  obtain ⟨hl90, hmv90, hl0, hst⟩ := hO
  have hOk : ClsOK ss := ⟨hl90, hmv90, hl0, hst⟩
  have hto : ∀ s ∈ ss, ∀ m ∈ s, m.length = 8 ∧ 0 ≤ m.getD 7 0 ∧ m.getD 7 0 < (ss.length : Int) := fun s hs m hm => ((hst s hs).2 m hm).2
  obtain ⟨sa, sc, hsv⟩ := hK.shape
  subst hsv
  obtain ⟨W1, hW1⟩ : ∃ W1, W1 = (w.alloc (.cells #[.int .i64 n, .slice sa ss.length sc] 24)).alloc (.cells #[.int .i64 0, .slice none 0 0] 24) := ⟨_, rfl⟩
  have hb1 : Below w.heap.size w W1 := by rw [hW1]; exact ((Below.refl _ w).alloc (Nat.le_refl _) _).alloc (by simp) _
  have m0 : W1.heap[w.heap.size]? = some (.cells #[.int .i64 n, .slice sa ss.length sc] 24) := by rw [hW1]; exact (Below.heap_alloc _ _ _ (by simp)).trans (heap_alloc_new _ _)
  have m1 : W1.heap[w.heap.size + 1]? = some (.cells #[.int .i64 0, .slice none 0 0] 24) := by
    have h := heap_alloc_new (w.alloc (.cells #[.int .i64 n, .slice sa ss.length sc] 24)) (.cells #[.int .i64 0, .slice none 0 0] 24)
    rw [World.size_alloc] at h
    rw [hW1]; exact h
  have hs1 : W1.heap.size = w.heap.size + 2 := by rw [hW1]; simp
  have hK1 := hK.keep hb1
  have HC := Lib.hid (classesCall hK1 hOk hL)
  have p0 : W1.cell? ⟨w.heap.size, 0, none⟩ = some (.int .i64 n) := by rw [cell_of_row _ _ 0 _ _ _ m0]; rfl
  have p1 : W1.cell? ⟨w.heap.size, 1, none⟩ = some (.slice sa ss.length sc) := by rw [cell_of_row _ _ 1 _ _ _ m0]; rfl
  have hmm := @run_makeMap Tryz.prog
  go_enter Tryz.func51, Tryz.ntmps51
  go_wp2_with fail
  rw [← hW1]
  refine HC.out.mono ?_
  rintro e W2 ⟨u, rfl, hOI, hb2⟩
  obtain ⟨g, cap, hu⟩ : ∃ g cap, u = .slice (some ⟨g, 0, none⟩) L.length cap := by
    rcases hOI.2 with ⟨_, h2⟩ | ⟨g, cap, cur, h1, _⟩
    · omega
    · exact ⟨g, cap, h1⟩
  subst hu
  have hc0 := hOI.cell (j := 0) (by omega)
  rw [natI_getD] at hc0
  obtain ⟨q0, hq0⟩ : ∃ q, L.getD 0 0 = q := ⟨_, rfl⟩
  rw [hq0] at hc0
  have hgW : g < W2.heap.size := World.block_lt_of_cell? W2 ⟨g, 0, none⟩ hc0
  obtain ⟨W3, hW3⟩ : ∃ W3, W3 = (W2.alloc (.cells #[.slice (some ⟨g, 0, none⟩) L.length cap] 27)).alloc (.map #[] 0) := ⟨_, rfl⟩
  have hb3 : Below W2.heap.size W2 W3 := by rw [hW3]; exact ((Below.refl _ _).alloc (Nat.le_refl _) _).alloc (by simp) _
  have hs3a : W3.heap.size ≤ W2.heap.size + 2 := by rw [hW3]; simp
  have hs3b : W2.heap.size + 2 ≤ W3.heap.size := by rw [hW3]; simp
  have hc3 := cell_kept hb3 hc0
  have n0 : W3.heap[W2.heap.size]? = some (.cells #[.slice (some ⟨g, 0, none⟩) L.length cap] 27) := by rw [hW3]; exact (Below.heap_alloc _ _ _ (by simp)).trans (heap_alloc_new _ _)
  have hM0 : IM intV W3 (W2.heap.size + 1) [] := by
    have h := MX.made (kv := intV) (vv := intV) (W2.alloc (.cells #[.slice (some ⟨g, 0, none⟩) L.length cap] 27))
    rw [World.size_alloc] at h
    rw [hW3]; exact h
  have hqb : q0 ≤ 1000000 := by
    rw [← hq0, getD_eq (by omega : 0 < L.length)]; exact hLb _ (List.getElem_mem _)
  obtain ⟨ob, hput, hM1⟩ := IM.put keyX_int umInt hM0 (by simp) hqb (by simp)
  obtain ⟨W4, hW4⟩ : ∃ W4, W4 = setBlock W3 (W2.heap.size + 1) ob := ⟨_, rfl⟩
  rw [← hW4] at hput hM1
  have hkp4 : ∀ k, k ≠ W2.heap.size + 1 → W4.heap[k]? = W3.heap[k]? := fun k hk => by rw [hW4]; exact setBlock_keep ob hk
  have hs4a : W4.heap.size ≤ W3.heap.size := by rw [hW4]; simp [setBlock]
  have hs4b : W3.heap.size ≤ W4.heap.size := by rw [hW4]; simp [setBlock]
  have hb4 : Below W2.heap.size W3 W4 := by rw [hW4]; exact setBlock_below (Below.refl _ _) (by omega) ob
  have hb24 : Below W2.heap.size W2 W4 := hb3.trans hb4
  obtain ⟨W5, hW5⟩ : ∃ W5, W5 = W4.alloc (.cells #[.map (some (W2.heap.size + 1))] 127) := ⟨_, rfl⟩
  have hb5 : Below W4.heap.size W4 W5 := by rw [hW5]; exact (Below.refl _ _).alloc (Nat.le_refl _) _
  have n5 : W5.heap[W4.heap.size]? = some (.cells #[.map (some (W2.heap.size + 1))] 127) := by rw [hW5]; exact heap_alloc_new _ _
  have hs5 : W4.heap.size + 1 ≤ W5.heap.size := by rw [hW5]; simp
  have hb25 : Below W2.heap.size W2 W5 := bt hb24 hb5 (by omega)
  have hM5 := hM1.keep (w' := W5) (hb5.block _ hM1.lt)
  have n35 : W5.heap[W2.heap.size]? = some (.cells #[.slice (some ⟨g, 0, none⟩) L.length cap] 27) := (hb5.block _ (by omega)).trans ((hkp4 _ (by omega)).trans n0)
  have hOI5 := hOI.keep hb25
  have hL5 : Ints W5 (.slice (some ⟨g, 0, none⟩) L.length cap) (natI L) := hOI5.ints (by omega)
  replace hput : (Instr.mapUpdate 127 (.map (some (W2.heap.size + 1))) (.int .i64 (q0 : Int)) (.int .i64 0)).run Tryz.prog W3 = .ok () W4 := hput
  rw [hW3] at hput hc3
  have hb15 : Below W1.heap.size W1 W5 := bt hb2 hb25 hb2.size
  have hK5 := hK1.keep hb15
  obtain ⟨bM, hbM⟩ : ∃ bM, bM = W2.heap.size + 1 := ⟨_, rfl⟩
  have hpm : W5.cell? ⟨w.heap.size, 1, none⟩ = some (.slice sa ss.length sc) := cell_kept hb15 p1
  have hp4 := hpm
  rw [hW5] at hp4
  have hgM : ∀ k, (Value.slice (some ⟨g, 0, none⟩) L.length cap).ownBlock = some k → ¬ (fun k => k = bM) k := fun k hk h => by
    simp only [Value.ownBlock, Option.some.injEq] at hk
    have h : k = bM := h
    omega
  have hS := Lib.hid (searchA (w := W5) (wA := W1) (D0 := fun k => k = bM) (kf := keyL L) (J := JC (keyL L) bM) (bl := W2.heap.size) (bn := W4.heap.size) hK1 hb15 (fun k hk => by have := hb2.size; subst hk; omega) ⟨hl0, by omega⟩
    (fun i hi => by unfold keyL; rw [getD_eq (by omega)]; exact hLb _ (List.getElem_mem _)) hto
    (fun W i hW hi => keyCanon ((hW.same _ (by omega) (by omega)).trans n35) (v := .slice (some ⟨g, 0, none⟩) L.length cap) ((hOI5.only hW hgM).ints (by omega)) (by omega))
    (JC.stable _ _) (fun k hk => by subst hk; rw [hbM]; exact hM5.lt) ⟨fun k => Iff.rfl, by rw [hbM]; show IM intV W5 _ [keyL L 0]; unfold keyL; rw [hq0]; exact hM5⟩
    (fun W fs D s y0 y1 y2 y3 y4 y5 y6 y7 hJ hBd hO hGr hs hm hn => by
      have h8 := hto _ (by rw [getD_eq hs]; exact List.getElem_mem hs) _ hm
      obtain ⟨q, rfl⟩ : ∃ q : Nat, y7 = (q : Int) := ⟨y7.toNat, by have := h8.2.1; simp at this; omega⟩
      have hq : q < L.length := by have := h8.2.2; simp at this; omega
      have hmq : mvTo [y0, y1, y2, y3, y4, y5, y6, (q : Int)] = q := by show ((q : Int)).toNat = q; omega
      rw [hmq] at hn
      exact foundCanon hJ ((hO.same _ (by omega) (by omega)).trans n35) ((hOI5.only hO hgM).ints (by omega)) ((hO.same _ (by omega) (by omega)).trans (by rw [hbM]; exact n5)) hLb hq hn) hR hRl)
  obtain ⟨N, hN⟩ : ∃ N, N = L.length := ⟨_, rfl⟩
  rw [← hN] at hput hc3 ⊢
  have hN0 : 0 < N := by omega
  replace hN := Lib.hid hN
  have hRh := Lib.hid hR
  have hK1h := Lib.hid hK1
  have hsth := Lib.hid hst
  have n55 := n5
  have m1h := m1
  have z0 : W1.cell? ⟨w.heap.size + 1, 0, none⟩ = some (.int .i64 0) := by rw [cell_of_row _ _ 0 _ _ _ m1]; rfl
  have z1 : W1.cell? ⟨w.heap.size + 1, 1, none⟩ = some (.slice none 0 0) := by rw [cell_of_row _ _ 1 _ _ _ m1]; rfl
  clear HC hK hK1 hOk hto hst hL hR hW1 hW3 hW4
  go_wp2_with fail
  rw [← hW5]
  refine hS.out.mono ?_
  rintro e W6 ⟨o, D6, rfl, hOI6, hJ6, hBd6, hO6, hGr6, hoD6⟩
  have hb16 : Below W1.heap.size W1 W6 := hb15.trans (hO6.below hb15.size (fun k hk => by have hk : k = bM := hk; have := hb2.size; omega))
  have hK6 := Lib.hid (hK1h.out.keep hb16)
  have r0 := cell_kept hb16 p0
  have r1 := cell_kept hb16 p1
  have n36 := (hO6.same W2.heap.size (by omega) (by omega)).trans n35
  have n56 := (hO6.same W4.heap.size (by omega) (by omega)).trans n55
  have hOIL := hOI5.only hO6 hgM
  have hM6 := hJ6.2
  rw [← srch_ord hRh.out rfl] at hM6
  obtain ⟨K, hKK⟩ : ∃ K, R.1.map (keyL L) = K := ⟨_, rfl⟩
  rw [hKK] at hM6
  obtain ⟨Fm, hFm⟩ : ∃ Fm, formC ss L R.1 = Fm := ⟨_, rfl⟩
  have hFml : Fm.length = R.1.length := by rw [← hFm, formC, List.length_map]
  have hKl : K.length = R.1.length := by rw [← hKK, List.length_map]
  have hKn : Hid K.Nodup := by show K.Nodup; rw [← hKK]; exact srch_nodup hRh.out (by simp)
  have hKb : Hid (∀ y ∈ K, y ≤ 1000000) := fun y hy => by
    rw [← hKK] at hy
    obtain ⟨x, hx, rfl⟩ := List.mem_map.1 hy
    unfold keyL
    rw [getD_eq (by have := hRb x hx; omega)]; exact hLb _ (List.getElem_mem _)
  have hFmi : Hid (∀ i, i < R.1.length → Fm.getD i [] = (ss.getD (R.1.getD i 0) []).map (formMv L K)) := fun i hi => by
    rw [← hFm, formC, List.getD_eq_getElem?_getD, List.getElem?_map, List.getElem?_eq_some_iff.2 ⟨hi, rfl⟩, hKK]
    simp only [Option.map_some, Option.getD_some, formSt]
    rw [getD_eq hi]
  obtain ⟨go, oc, hov⟩ : ∃ go oc, o = .slice (some ⟨go, 0, none⟩) R.1.length oc := by
    have h1 := srch_le hRh.out
    rcases hOI6.2 with ⟨_, h2⟩ | ⟨g, cap, cur, h1, _⟩
    · simp only [List.length_singleton] at h1; omega
    · exact ⟨g, cap, h1⟩
  subst hov
  have hb26 : W1.heap.size ≤ W6.heap.size := hb16.size
  have hS6 : ∀ wr, Below W6.heap.size W6 wr → wr.cell? ⟨w.heap.size, 1, none⟩ = some (.slice sa ss.length sc) := fun wr h => cell_kept h r1
  replace hFm := Lib.hid hFm
  replace hRb := Lib.hid hRb
  replace hLb := Lib.hid hLb
  replace hst := hsth
  obtain ⟨W7, hW7⟩ : ∃ W7, W7 = W6.alloc (.cells #[.int .i64 n, .slice none 0 0] 24) := ⟨_, rfl⟩
  have hb7 : Below W6.heap.size W6 W7 := by rw [hW7]; exact (Below.refl _ _).alloc (Nat.le_refl _) _
  have n7 : W7.heap[W6.heap.size]? = some (.cells #[.int .i64 n, .slice none 0 0] 24) := by rw [hW7]; exact heap_alloc_new _ _
  replace hW7 := Lib.hid hW7
  clear hput hc3 hS hO6 hJ6 hBd6 hGr6 hoD6 hM0 hM1 hM5 hL5 hOI5 hK5 hc0 hOI hgM n35 n55 hkp4 hp4 hpm hb24 hb25 hb15 hb3 hb4 hb5 hW5 m0 m1 hRh hK1h hsth n0
  go_wp2_with fail
  rw [← hW7.out]
  go_loopw [31] (fun iv wr => ∃ (i : Nat) (sv : Value), iv = .int .i64 i ∧ i ≤ R.1.length ∧ Below W6.heap.size W6 wr ∧ wr.heap[W6.heap.size]? = some (.cells #[.int .i64 n, sv] 24) ∧
    OwX 82 1 ESt wr (W6.heap.size + 1) sv i (Fm.take i)) (fun iv _ => R.1.length - (intOf iv).toNat)
  case atStart => exact ⟨0, _, rfl, by omega, hb7, n7, by rw [List.take_zero]; exact OwX.nil _ _⟩
  case round =>
    clear n7 hb7 hW7
    obtain ⟨i, sv, rfl, hi, hbr, hbx, hrow⟩ := hrel
    obtain ⟨va, vc, hsv⟩ := hrow.shape
    subst hsv
    have x1 : wr.cell? ⟨W6.heap.size, 1, none⟩ = some (.slice va i vc) := by rw [cell_of_row _ _ 1 _ _ _ hbx]; rfl
    by_cases hlt : i < R.1.length
    · have hci := cell_kept hbr (hOI6.cell hlt)
      rw [natI_getD] at hci
      obtain ⟨s, hs⟩ : ∃ s, R.1.getD i 0 = s := ⟨_, rfl⟩
      have hsl : s < ss.length := hRb.out s (by rw [← hs, getD_eq hlt]; exact List.getElem_mem hlt)
      have hFi := hFmi.out i hlt
      rw [hs] at hci hFi
      have hcs := hS6 wr hbr
      obtain ⟨aa, ac, ab, ao, hav, hab, hacc, _⟩ := hK6.out.keep hbr
      injection hav with hav1 hav2 hav3
      have hab := hab hl0
      rw [← hav1] at hab
      subst hab
      obtain ⟨um, hcu, hu⟩ := hacc s hsl
      obtain ⟨ms, hms⟩ : ∃ ms, ss.getD s [] = ms := ⟨_, rfl⟩
      have hmem : ms ∈ ss := by rw [← hms, getD_eq hsl]; exact List.getElem_mem hsl
      rw [hms] at hu hFi
      have hmst := Lib.hid (hst.out ms hmem)
      have hml : ms.length ≤ 90 := by
        have h1 := mem_movesN hmem
        omega
      have hC := Lib.hid (cloneMvK hu (by omega))
      obtain ⟨ma, mc, hum⟩ := hu.shape
      subst hum
      clear hav1 hav2 hav3 hacc
      go_wp2_with fail
      refine hC.out.mono ?_
      rintro e w1 ⟨uc, rfl, hcl, hbc⟩
      have hm0 : 0 < ms.length := hmst.out.1
      obtain ⟨g1, cap1, huc, hg1⟩ := hcl.form hm0
      subst huc
      have hcl0 : OwX 84 8 EI w1 wr.heap.size (.slice (some ⟨g1, 0, none⟩) ms.length cap1) ms.length (mvPart L K ms 0) := by rw [mvPart_zero]; exact hcl
      clear hcl hC hci hcu hcs hu
      obtain ⟨wo, hwo⟩ : ∃ wo, wo = wr := ⟨_, rfl⟩
      subst hwo
      go_wp2_with fail
      go_loopw [43] (fun jv wr => ∃ (k : Nat), jv = .int .i64 k ∧ k ≤ ms.length ∧ OwX 84 8 EI wr wo.heap.size (.slice (some ⟨g1, 0, none⟩) ms.length cap1) ms.length (mvPart L K ms k) ∧ Below wo.heap.size wo wr) (fun jv _ => ms.length - (intOf jv).toNat)
      case atStart => exact ⟨0, rfl, by omega, hcl0, hbc⟩
      case round =>
        clear hcl0 hbc
        obtain ⟨k, rfl, hk, hcl, hbi⟩ := hrel
        by_cases hltk : k < ms.length
        · have hb6i : Below W6.heap.size W6 wr := btt hbr hbi
          have b5 := cell_of_one ((hb6i.block _ (Array.getElem?_eq_some_iff.1 n56).1).trans n56)
          have b3 := cell_of_one ((hb6i.block _ (Array.getElem?_eq_some_iff.1 n36).1).trans n36)
          obtain ⟨x, hx⟩ : ∃ x, ms.getD k [] = x := ⟨_, rfl⟩
          have hxm : x ∈ ms := by rw [← hx, getD_eq hltk]; exact List.getElem_mem hltk
          obtain ⟨_, hx8, ht0, ht1⟩ := hmst.out.2 x hxm
          obtain ⟨hx8', hxc⟩ := hcl.intCells hltk
          have hst8 := fun y d => (hcl.keep (EI.stab _) (below_drewN (Below.refl _ _) d)).storeI hltk (i := 7) (by decide) y
          rw [mvPart_at hltk, hx] at hxc
          simp only [mvPart_at hltk, hx] at hst8
          obtain ⟨y0, y1, y2, y3, y4, y5, y6, y7, rfl⟩ := eight hx8
          replace ht0 : 0 ≤ y7 := ht0
          replace ht1 : y7 < (ss.length : Int) := ht1
          obtain ⟨q, rfl⟩ : ∃ q : Nat, y7 = (q : Int) := ⟨y7.toNat, by omega⟩
          have hq : q < L.length := by omega
          have hmq : mvTo [y0, y1, y2, y3, y4, y5, y6, (q : Int)] = q := by show ((q : Int)).toNat = q; omega
          have hstep := Lib.hid (mvPart_step (L := L) (K := K) hltk hx)
          obtain ⟨c0, c1, c2, c3, c4, c5, c6, c7⟩ := hxc.all8
          have hlc := cell_kept hb6i (hOIL.cell hq)
          rw [natI_getD] at hlc
          have hlqb : L.getD q 0 ≤ 1000000 := by rw [getD_eq hq]; exact hLb.out _ (List.getElem_mem _)
          have hlk : ∀ d, (Instr.lookup 127 (.map (some (W2.heap.size + 1))) (.int .i64 (L.getD q 0 : Nat)) false).run Tryz.prog (wr.drewN d) = .ok (.int .i64 (numK K (L.getD q 0) : Nat)) (wr.drewN d) := fun d => by
            have hMd : IM intV (wr.drewN d) (W2.heap.size + 1) K := by rw [hbM] at hM6; exact hM6.keep ((hb6i.block _ hM6.lt))
            unfold numK
            rcases IM.look keyX_int umInt zInt hMd hKn.out hKb.out hlqb with ⟨hin, hl1, _⟩ | ⟨hin, hl1, _⟩
            · rw [if_neg hin]; exact hl1
            · rw [if_pos hin]; exact hl1
          have hform : formMv L K [y0, y1, y2, y3, y4, y5, y6, (q : Int)] = [y0, y1, y2, y3, y4, y5, y6, (q : Int)].set 7 ((numK K (L.getD q 0) : Nat) : Int) := by unfold formMv; rw [hmq]
          rw [hform] at hstep
          obtain ⟨lq, hlq⟩ : ∃ lq, L.getD q 0 = lq := ⟨_, rfl⟩
          rw [hlq] at hlc hlk hstep
          obtain ⟨nq, hnq⟩ : ∃ nq, numK K lq = nq := ⟨_, rfl⟩
          simp only [hnq] at hlk hstep
          have hst8 := fun d => hst8 (nq : Int) d
          rw [hstep.out] at hst8
          replace hst8 := Lib.hid hst8
          have hfr := hcl.frozen (k * 8 + 7)
          have hmx : Tryz.prog.follows .mixedOrders = true := by kernel_rfl
          clear hxc hx8' hx8 hform hstep hcl c0 c1 c2 c3 c4 c5 c6
          go_wp2_with fail
          refine wp_region_qtail 14 hmx (by kernel_rfl) (by kernel_rfl) ?_ ?_
          · rintro ⟨a, wx, h⟩
            first
              | exact h
              | (obtain ⟨_, h, _⟩ := h; cases h; done)
              | (obtain ⟨_, _, h, _⟩ := h; cases h; done)
              | (obtain ⟨h, _⟩ := h; cases h; done)
          · intro ops'
            simp only [List.take_succ_cons, List.take_zero, List.drop_succ_cons, List.drop_zero]
            repeat (quiet_step (fail))
            refine wpQuiet_nil ?_
            intro d
            obtain ⟨hs1, hs2⟩ := hst8.out d
            go_wp2
            go_roundw
            case rel => exact ⟨k + 1, by go_num, hltk, hs1, (below_drewN hbi d).setCell hg1 _⟩
            case measure => simp [intOf]; omega
        · obtain rfl : k = ms.length := by omega
          rw [mvPart_all] at hcl
          have hb6i : Below W6.heap.size W6 wr := btt hbr hbi
          have hbxi := (hbi.block _ (Array.getElem?_eq_some_iff.1 hbx).1).trans hbx
          have x1i : wr.cell? ⟨W6.heap.size, 1, none⟩ = some (.slice va i vc) := by rw [cell_of_row _ _ 1 _ _ _ hbxi]; rfl
          have hrow2 := hrow.keep (ESt.stab (by decide)) hbi
          have hES : ESt wr [.slice (some ⟨g1, 0, none⟩) ms.length cap1] (ms.map (formMv L K)) := ⟨_, rfl, by rw [List.length_map]; exact hcl.base (Nat.zero_le _)⟩
          clear x1 hbx hrow hcl
          have hB1 : W6.heap.size + 1 ≤ wr.heap.size := (Array.getElem?_eq_some_iff.1 hbxi).1
          have hi9 : i ≤ 1000000000000 := by omega
          have hc9 : ∀ u ∈ (#[.slice (some ⟨g1, 0, none⟩) ms.length cap1] : Array Value).toList, u.oneCell' = true := fun u hu => by rw [List.mem_singleton.1 hu]; rfl
          have hSt : Stab 82 ESt := ESt.stab (by decide)
          go_wp2_with (at_builtin; refine wpAppX elemSt (by decide) (by decide) hSt rfl _ _ rfl rfl hrow2 rfl rfl rfl hc9 hES hi9 hB1 ?_)
          intro v' w2 hrow3 hgr3 hb3' hx3
          have hbx2 := (hb3'.block _ (Nat.lt_succ_self _)).trans hbxi
          have hfr2 := row_free hbx2 1
          have x2 : w2.cell? ⟨W6.heap.size, 1, none⟩ = some (.slice va i vc) := by rw [cell_of_row _ _ 1 _ _ _ hbx2]; rfl
          obtain ⟨va', vc', hv'⟩ := hrow3.shape
          subst hv'
          have hset := two_setCell (u := .slice va' (i + 1) vc') hbx2
          rw [take_succ_snoc (by omega) hFi] at hrow3
          have hrow4 := hrow3.other (E' := 24) (ESt.stab (by decide)) (by decide) (KeepX.setCell (p := ⟨W6.heap.size, 1, none⟩) hbx2 (.slice va' (i + 1) vc'))
          have hbf : Below W6.heap.size W6 (w2.setCell ⟨W6.heap.size, 1, none⟩ (.slice va' (i + 1) vc')) := (hb6i.trans (hb3'.mono (Nat.le_succ _))).setCell (p := ⟨W6.heap.size, 1, none⟩) (Nat.le_refl _) _
          clear hrow2 hrow3 hgr3 hx3 hES hb3' hFi
          go_wp2
          go_roundw
          case rel => exact ⟨i + 1, .slice va' (i + 1) vc', by go_num, hlt, hbf, hset, hrow4⟩
          case measure => simp [intOf]; omega
    · obtain rfl : i = R.1.length := by omega
      have r1c : wr.cell? ⟨W6.heap.size, 0, none⟩ = some (.int .i64 n) := by rw [cell_of_row _ _ 0 _ _ _ hbx]; rfl
      have hbf : Below W1.heap.size W1 wr := hb16.trans (hbr.mono hb26)
      have hb1' : Below w.heap.size w wr := bt hb1 hbf hb1.size
      have k0 := cell_kept hbf z0
      have k1 := cell_kept hbf z1
      have kf := row_free (hbf.block _ (Array.getElem?_eq_some_iff.1 m1h).1 |>.trans m1h)
      have hrw := (hbf.block _ (Array.getElem?_eq_some_iff.1 m1h).1).trans m1h
      have hx1 : KeepX 24 wr (wr.setCell ⟨w.heap.size + 1, 0, none⟩ (.int .i64 n)) := KeepX.setCell (p := ⟨w.heap.size + 1, 0, none⟩) hrw _
      have hrw1 : (wr.setCell ⟨w.heap.size + 1, 0, none⟩ (.int .i64 n)).heap[w.heap.size + 1]? = some (.cells #[.int .i64 n, .slice none 0 0] 24) := heap_setCell_same wr _ 0 _ _ _ hrw
      have hx2 := KeepX.setCell (p := ⟨w.heap.size + 1, 1, none⟩) hrw1 (.slice va R.1.length vc)
      have hrw2 := two_setCell (u := .slice va R.1.length vc) hrw1
      have hfin := hrow.other (E' := 24) (ESt.stab (by decide)) (by decide) (hx1.trans hx2)
      rw [List.take_of_length_le (by omega)] at hfin
      have hbe := (hb1'.setCell (p := ⟨w.heap.size + 1, 0, none⟩) (Nat.le_succ _) (.int .i64 n)).setCell (p := ⟨w.heap.size + 1, 1, none⟩) (Nat.le_succ _) (.slice va R.1.length vc)
      have hkss : OwX 82 1 ESt _ 0 (.slice va R.1.length vc) Fm.length Fm ∧ Fm.length ≤ 5864062014805 ∧ ∀ x ∈ Fm, x.length ≤ 2199023255552 := ⟨by rw [hFml]; exact hfin.base (Nat.zero_le _), by omega, (fun x hx => by
        obtain ⟨j, hj, rfl⟩ := List.getElem_of_mem hx
        rw [← getD_eq hj [], hFmi.out j (by omega), List.length_map]
        have hjs : R.1.getD j 0 < ss.length := hRb.out _ (by rw [getD_eq (by omega)]; exact List.getElem_mem _)
        have h1 := mem_movesN (ss := ss) (ms := ss.getD (R.1.getD j 0) []) (by rw [getD_eq hjs]; exact List.getElem_mem hjs)
        omega)⟩
      have e0 : ((wr.setCell ⟨w.heap.size + 1, 0, none⟩ (.int .i64 n)).setCell ⟨w.heap.size + 1, 1, none⟩ (.slice va R.1.length vc)).cell? ⟨w.heap.size + 1, 0, none⟩ = some (.int .i64 n) := by rw [cell_of_row _ _ 0 _ _ _ hrw2]; rfl
      have e1 : ((wr.setCell ⟨w.heap.size + 1, 0, none⟩ (.int .i64 n)).setCell ⟨w.heap.size + 1, 1, none⟩ (.slice va R.1.length vc)).cell? ⟨w.heap.size + 1, 1, none⟩ = some (.slice va R.1.length vc) := by rw [cell_of_row _ _ 1 _ _ _ hrw2]; rfl
      rw [← hFm.out] at hkss
      clear hfin hx1 hx2 hrw2 hrw1 hrw hrow hFmi hS6
      go_wp2
      obtain ⟨W8, hW8⟩ : ∃ W8, W8 = (wr.setCell ⟨w.heap.size + 1, 0, none⟩ (.int .i64 n)).setCell ⟨w.heap.size + 1, 1, none⟩ (.slice va R.1.length vc) := ⟨_, rfl⟩
      rw [← hW8] at e0 e1 hkss hbe ⊢
      clear hW8
      refine bodyPost_ret (v := .agg #[.int .i64 n, .slice va R.1.length vc]) (by simp [results, Tryz.results51, go_sem, e0, e1]) rfl ?_
      exact ⟨_, rfl, ⟨_, rfl, hkss⟩, hbe⟩
end Go.Proofs.YtfihpofdoffclaaGreatDoor

/- Equality of adversaries. -/
namespace Go.Proofs.YtfihpofdoffclaaGreatDoor
open Go.RowKit

theorem takes_next {α : Type} {xs ys : List α} {i : Nat} (h : xs.take i = ys.take i) (hx : i < xs.length) (hy : i < ys.length) {d : α} (he : xs.getD i d = ys.getD i d) : xs.take (i + 1) = ys.take (i + 1) := by
  rw [take_snoc hx d, take_snoc hy d, h, he]
theorem takes_all {α : Type} {xs ys : List α} {i : Nat} (h : xs.take i = ys.take i) (hx : i = xs.length) (hy : i = ys.length) : xs = ys := by
  have h1 : xs.take i = xs := List.take_of_length_le (by omega)
  have h2 : ys.take i = ys := List.take_of_length_le (by omega)
  rw [← h1, ← h2, h]
theorem Qt.step {a b : World} (h : Qt a b) (n : Nat) : Qt a (b.drewN n) := h.trans (Qt.mk' b n)

set_option maxRecDepth 100000 in
set_option maxHeartbeats 1600000 in
theorem eqMoves {w : World} {u v : Value} {xs ys : List (List Int)} (hx : KS 8 w u xs) (hy : KS 8 w v ys) :
    Calls Tryz.prog 91 #[u, v] w fun e w' => e = .returned (.bool (decide (xs = ys))) ∧ Qt w w' := by
  obtain ⟨xa, xc, xb, xo, rfl, hxa, hxc, _⟩ := hx
  obtain ⟨ya, yc, yb, yo, rfl, hya, hyc, _⟩ := hy
  have hD : Hid (decide (xs = ys) = decide (xs = ys)) := rfl
  obtain ⟨B, hB⟩ : ∃ B, decide (xs = ys) = B := ⟨_, rfl⟩
  rw [hB]
  replace hB := Lib.hid hB
  replace hxc := Lib.hid hxc
  replace hyc := Lib.hid hyc
  clear hD
  by_cases hlen : xs.length = ys.length
  · rw [← hlen]
    replace hlen := Lib.hid hlen
    have h0 : Hid (xs.take 0 = ys.take 0) := rfl
    go_enter Tryz.func91, Tryz.ntmps91
    go_wp2
    go_loopw [13] (fun iv wr => ∃ i : Nat, iv = .int .i64 i ∧ i ≤ xs.length ∧ Hid (xs.take i = ys.take i) ∧ Qt w wr) (fun iv _ => xs.length - (intOf iv).toNat)
    case atStart => exact ⟨0, rfl, by omega, h0, Qt.refl w⟩
    case round =>
      clear h0
      obtain ⟨i, rfl, hi, ht, n, rfl⟩ := hrel
      by_cases hlt : i < xs.length
      · obtain rfl := hxa (by omega)
        obtain rfl := hya (by rw [← hlen.out]; omega)
        have hlt' : i < ys.length := by rw [← hlen.out]; exact hlt
        obtain ⟨hx8, hxi⟩ := hxc.out i hlt
        obtain ⟨hy8, hyi⟩ := hyc.out i hlt'
        obtain ⟨x, hx⟩ : ∃ x, xs.getD i [] = x := ⟨_, rfl⟩
        obtain ⟨y, hy⟩ : ∃ y, ys.getD i [] = y := ⟨_, rfl⟩
        rw [hx] at hx8 hxi
        rw [hy] at hy8 hyi
        obtain ⟨x0, x1, x2, x3, x4, x5, x6, x7, rfl⟩ := eight hx8
        obtain ⟨y0, y1, y2, y3, y4, y5, y6, y7, rfl⟩ := eight hy8
        obtain ⟨c0, c1, c2, c3, c4, c5, c6, c7⟩ := hxi.all8
        obtain ⟨d0, d1, d2, d3, d4, d5, d6, d7⟩ := hyi.all8
        clear hxi hyi hx8 hy8
        by_cases he : [x0, x1, x2, x3, x4, x5, x6, x7] = [y0, y1, y2, y3, y4, y5, y6, y7]
        · have hE : eqL [x0, x1, x2, x3, x4, x5, x6, x7] [y0, y1, y2, y3, y4, y5, y6, y7] = true := eqL_true.2 he
          have ht2 : Hid (xs.take (i + 1) = ys.take (i + 1)) := takes_next ht.out hlt hlt' (by rw [hx, hy, he])
          clear hx hy he ht
          go_wp2
          go_quiet (fail)
          go_wp2
          go_roundw
          case rel => exact ⟨i + 1, by go_num, hlt, ht2, by first | exact (Qt.mk' w n).step nq | exact Qt.mk' w _⟩
          case measure => simp [intOf]; omega
        · have hE : eqL [x0, x1, x2, x3, x4, x5, x6, x7] [y0, y1, y2, y3, y4, y5, y6, y7] = false := eqL_false.2 he
          have hBf : Hid (B = false) := by
            show _ = _
            rw [← hB.out]
            refine decide_eq_false fun h => he ?_
            rw [← hx, ← hy, h]
          clear hx hy he ht
          go_wp2
          go_quiet (fail)
          go_wp2
          go_ret
          exact ⟨by rw [hBf.out]; rfl, by first | exact (Qt.mk' w n).step nq | exact Qt.mk' w _⟩
      · have hBt : Hid (B = true) := by
          show _ = _
          rw [← hB.out]
          exact decide_eq_true (takes_all ht.out (by omega) (by rw [← hlen.out]; omega))
        clear ht
        go_wp2
        go_ret
        exact ⟨by rw [hBt.out]; rfl, Qt.mk' w n⟩
  · have hBf : B = false := by rw [← hB.out]; exact decide_eq_false fun h => hlen (by rw [h])
    subst hBf
    have h1 : ((xs.length : Int) == (ys.length : Int)) = false := by simp; omega
    go_enter Tryz.func91, Tryz.ntmps91
    go_wp2
    go_ret
    exact ⟨rfl, Qt.refl w⟩
set_option maxRecDepth 100000 in
theorem same1 {w : World} {u v : Value} {xs ys : List (List Int)} (hx : KS 8 w u xs) (hy : KS 8 w v ys) :
    Calls Tryz.prog 90 #[u, v] w fun e w' => e = .returned (.bool (decide (xs = ys))) ∧ Qt w w' := by
  have H := Lib.hid (eqMoves hx hy)
  obtain ⟨xa, xc, rfl⟩ := hx.shape
  obtain ⟨ya, yc, rfl⟩ := hy.shape
  obtain ⟨B, hB⟩ : ∃ B, decide (xs = ys) = B := ⟨_, rfl⟩
  rw [hB] at H ⊢
  clear hx hy hB
  go_enter Tryz.func90, Tryz.ntmps90
  go_wp2_with fail
  refine H.out.mono ?_
  rintro e w' ⟨rfl, hq⟩
  go_wp2
  go_ret
  exact ⟨rfl, hq⟩
set_option maxRecDepth 100000 in
set_option maxHeartbeats 1600000 in
theorem eqStates {w : World} {u v : Value} {xs ys : List (List (List Int))} (hx : KSS 8 w u xs) (hy : KSS 8 w v ys) :
    Calls Tryz.prog 89 #[u, v, .func (.func 90) #[] #[]] w fun e w' => e = .returned (.bool (decide (xs = ys))) ∧ Qt w w' := by
  obtain ⟨xa, xc, xb, xo, rfl, hxa, hxc, _⟩ := hx
  obtain ⟨ya, yc, yb, yo, rfl, hya, hyc, _⟩ := hy
  obtain ⟨B, hB⟩ : ∃ B, decide (xs = ys) = B := ⟨_, rfl⟩
  rw [hB]
  replace hB := Lib.hid hB
  replace hxc := Lib.hid hxc
  replace hyc := Lib.hid hyc
  by_cases hlen : xs.length = ys.length
  · rw [← hlen]
    replace hlen := Lib.hid hlen
    have h0 : Hid (xs.take 0 = ys.take 0) := rfl
    go_enter Tryz.func89, Tryz.ntmps89
    go_wp2
    go_loopw [17] (fun iv wr => ∃ i : Nat, iv = .int .i64 i ∧ i ≤ xs.length ∧ Hid (xs.take i = ys.take i) ∧ Qt w wr) (fun iv _ => xs.length - (intOf iv).toNat)
    case atStart => exact ⟨0, rfl, by omega, h0, Qt.refl w⟩
    case round =>
      clear h0
      obtain ⟨i, rfl, hi, ht, n, rfl⟩ := hrel
      by_cases hlt : i < xs.length
      · obtain rfl := hxa (by omega)
        obtain rfl := hya (by rw [← hlen.out]; omega)
        have hlt' : i < ys.length := by rw [← hlen.out]; exact hlt
        obtain ⟨cu, hcu, hu⟩ := hxc.out i hlt
        obtain ⟨cv, hcv, hv⟩ := hyc.out i hlt'
        have H := Lib.hid (same1 (hu.keep (below_drewN (Below.refl _ w) n)) (hv.keep (below_drewN (Below.refl _ w) n)))
        obtain ⟨x, hx⟩ : ∃ x, xs.getD i [] = x := ⟨_, rfl⟩
        obtain ⟨y, hy⟩ : ∃ y, ys.getD i [] = y := ⟨_, rfl⟩
        rw [hx] at hu
        rw [hy] at hv
        rw [hx, hy] at H
        obtain ⟨xa', xc', rfl⟩ := hu.shape
        obtain ⟨ya', yc', rfl⟩ := hv.shape
        clear hu hv
        by_cases he : x = y
        · rw [decide_eq_true he] at H
          have ht2 : Hid (xs.take (i + 1) = ys.take (i + 1)) := takes_next ht.out hlt hlt' (by rw [hx, hy, he])
          clear hx hy he ht
          go_wp2_with fail
          refine H.out.mono ?_
          rintro e w' ⟨rfl, m, rfl⟩
          go_wp2_with fail
          go_roundw
          case rel => exact ⟨i + 1, by go_num, hlt, ht2, by first | exact (Qt.mk' w n).step m | exact Qt.mk' w _⟩
          case measure => simp [intOf]; omega
        · rw [decide_eq_false he] at H
          have hBf : Hid (B = false) := by
            show _ = _
            rw [← hB.out]
            refine decide_eq_false fun h => he ?_
            rw [← hx, ← hy, h]
          clear hx hy he ht
          go_wp2_with fail
          refine H.out.mono ?_
          rintro e w' ⟨rfl, m, rfl⟩
          go_wp2_with fail
          go_ret
          exact ⟨by rw [hBf.out]; rfl, by first | exact (Qt.mk' w n).step m | exact Qt.mk' w _⟩
      · have hBt : Hid (B = true) := by
          show _ = _
          rw [← hB.out]
          exact decide_eq_true (takes_all ht.out (by omega) (by rw [← hlen.out]; omega))
        clear ht
        go_wp2
        go_ret
        exact ⟨by rw [hBt.out]; rfl, Qt.mk' w n⟩
  · have hBf : B = false := by rw [← hB.out]; exact decide_eq_false fun h => hlen (by rw [h])
    subst hBf
    have h1 : ((xs.length : Int) == (ys.length : Int)) = false := by simp; omega
    go_enter Tryz.func89, Tryz.ntmps89
    go_wp2
    go_ret
    exact ⟨rfl, Qt.refl w⟩
set_option maxRecDepth 100000 in
set_option maxHeartbeats 800000 in
theorem sameAdv {w : World} {u v : Value} {m n : Int} {xs ys : List (List (List Int))} (hx : AdvV w u m xs) (hy : AdvV w v n ys) :
    Calls Tryz.prog 53 #[u, v] w fun e w' => e = .returned (.bool (decide (m = n) && decide (xs = ys))) ∧ Below w.heap.size w w' := by
  obtain ⟨su, rfl, hu⟩ := hx
  obtain ⟨sv, rfl, hv⟩ := hy
  obtain ⟨ua, uc, hsu⟩ := hu.shape
  obtain ⟨va, vc, hsv⟩ := hv.shape
  subst hsu hsv
  obtain ⟨W1, hW1⟩ : ∃ W1, W1 = (w.alloc (.cells #[.int .i64 m, .slice ua xs.length uc] 24)).alloc (.cells #[.int .i64 n, .slice va ys.length vc] 24) := ⟨_, rfl⟩
  have hb1 : Below w.heap.size w W1 := by rw [hW1]; exact ((Below.refl _ w).alloc (Nat.le_refl _) _).alloc (by simp) _
  have H := Lib.hid (eqStates (hu.keep hb1) (hv.keep hb1))
  obtain ⟨B, hB⟩ : ∃ B, decide (xs = ys) = B := ⟨_, rfl⟩
  rw [hB] at H ⊢
  clear hu hv hB
  replace hW1 := Lib.hid hW1
  by_cases hmn : m = n
  · subst hmn
    rw [decide_eq_true rfl, Bool.true_and]
    go_enter Tryz.func53, Tryz.ntmps53
    go_wp2_with fail
    rw [← hW1.out]
    refine H.out.mono ?_
    rintro e w' ⟨rfl, k, rfl⟩
    go_wp2
    go_ret
    exact ⟨rfl, below_drewN hb1 k⟩
  · have h1 : (m == n) = false := by simp [hmn]
    rw [decide_eq_false hmn, Bool.false_and]
    go_enter Tryz.func53, Tryz.ntmps53
    go_wp2_with fail
    rw [← hW1.out]
    go_ret
    exact ⟨rfl, hb1⟩
end Go.Proofs.YtfihpofdoffclaaGreatDoor

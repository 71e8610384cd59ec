/- Texts of this claim, put together: CU CV CW. -/
import Derived.Test.YtiiiegflobihjaaGreatKAWp
import Derived.Laws.CopyRow
import Derived.Deep.RegionHeld3

/- combine.endless, slices.Repeat of one bool as a premise. -/
namespace Go.Proofs.YtiiiegflobihjaaGreat
open Go.RowKit

theorem OB.form {w : World} {B : Nat} {v : Value} {n : Nat} {xs : List Bool} (h : OB w B v n xs) (hn : 0 < n) : ∃ g cap, v = .slice (some ⟨g, 0, none⟩) n cap ∧ B ≤ g ∧ g < w.heap.size := by
  have hl := h.length
  rcases h.2 with ⟨rfl, h'⟩ | ⟨g, cap, cur, rfl, h2, h3, _⟩
  · omega
  · exact ⟨g, cap, rfl, h2, (Array.getElem?_eq_some_iff.1 h3).1⟩
/-- What slices.Repeat of one true must do. -/
def RepOK (N : Nat) : Prop := ∀ (W : World) (B : Nat) (u : Value), OB W B u 1 [true] → Calls Tryz.prog 73 #[u, .int .i64 (N : Int)] W fun e W' => ∃ v, e = .returned v ∧ OB W' W.heap.size v N (List.replicate N true) ∧ Below W.heap.size W W'
theorem psAt_no {ss : List (List (List Int))} {M : List Bool} {s : Nat} (h : M.getD s false = true → lvB ss M s = true) : psAt ss M s = M := by
  rw [psAt]
  cases hb : M.getD s false with
  | true => rw [h hb, Bool.and_true]; refine List.ext_getElem? fun i => ?_
            rw [List.getElem?_set]
            split
            · rename_i hi; subst hi
              split
              · rw [List.getD_eq_getElem?_getD] at hb
                cases hx : M[s]? with
                | none => rw [hx] at hb; cases hb
                | some y => rw [hx] at hb; simp at hb; rw [hb]
              · rename_i hi2; rw [List.getElem?_eq_none (by omega)]
            · rfl
  | false => rw [Bool.false_and]; refine List.ext_getElem? fun i => ?_
             rw [List.getElem?_set]
             split
             · rename_i hi; subst hi
               split
               · rename_i hi2
                 rw [List.getD_eq_getElem?_getD, List.getElem?_eq_getElem hi2] at hb
                 simp at hb
                 rw [List.getElem?_eq_getElem hi2, hb]
               · rename_i hi2; rw [List.getElem?_eq_none (by omega)]
             · rfl
theorem psAt_yes {ss : List (List (List Int))} {M : List Bool} {s : Nat} (h : M.getD s false = true) (h2 : lvB ss M s = false) : psAt ss M s = M.set s false := by
  rw [psAt, h, h2]; rfl
theorem psK_ne {ss : List (List (List Int))} {L : List Bool} {s : Nat} (h : (psK ss s 0 L).getD s false = true) (h2 : lvB ss (psK ss s 0 L) s = false) : psAt ss (psK ss s 0 L) s ≠ L := fun e => by
  have h3 := (psK_dn (ss := ss) s 0 L).2 s h
  rw [psAt_yes h h2] at e
  rw [← e, List.getD_eq_getElem?_getD, List.getElem?_set] at h3
  simp at h3
  split at h3 <;> simp at h3

set_option maxRecDepth 100000 in
set_option maxHeartbeats 3200000 in
theorem endlessA {w : World} {v : Value} {n : Int} {ss : List (List (List Int))} (hA : AdvV w v n ss) (wA : AdW ss) (hR : RepOK ss.length) :
    Calls Tryz.prog 36 #[v] w fun e w' => ∃ u, e = .returned u ∧ OB w' w.heap.size u ss.length (lvA ss) ∧ Below w.heap.size w w' := by
  obtain ⟨sv, rfl, sa, sc, sb, so, rfl, hsa, hsc, hs0⟩ := hA
  have hpos := wA.pos
  have hlen := wA.len
  obtain rfl := hsa (by omega)
  obtain ⟨N, hN⟩ : ∃ N, ss.length = N := ⟨_, rfl⟩
  obtain ⟨W1, hW1⟩ : ∃ W1, W1 = (w.alloc (.cells #[.int .i64 n, .slice (some ⟨sb, so, none⟩) N sc] 24)).alloc (.cells #[.bool true] 4) := ⟨_, rfl⟩
  have hb1 : Below w.heap.size w W1 := by rw [hW1]; exact ((Below.refl _ w).alloc (Nat.le_refl _) _).alloc (by simp) _
  have k1 : W1.heap[w.heap.size]? = some (.cells #[.int .i64 n, .slice (some ⟨sb, so, none⟩) N sc] 24) := by rw [hW1]; exact (Below.heap_alloc _ _ _ (by simp)).trans (heap_alloc_new _ _)
  have k2 : W1.heap[w.heap.size + 1]? = some (.cells #[.bool true] 4) := by
    rw [hW1]
    have := heap_alloc_new (w.alloc (.cells #[.int .i64 n, .slice (some ⟨sb, so, none⟩) N sc] 24)) (.cells #[.bool true] 4)
    rwa [World.size_alloc] at this
  have ho1 : OB W1 0 (.slice (some ⟨w.heap.size + 1, 0, none⟩) 1 1) 1 [true] := ⟨rfl, .inr ⟨w.heap.size + 1, 1, _, rfl, Nat.zero_le _, k2, Nat.le_refl _, by unfold maxLen; omega, rfl, rfl⟩⟩
  have HR := Lib.hid (hR W1 0 _ ho1)
  rw [hN] at HR hpos hlen ⊢
  replace hN := Lib.hid hN
  have hs1 : W1.heap.size = w.heap.size + 2 := by rw [hW1]; simp
  have hto : ∀ s < N, ∀ j < (ss.getD s []).length, 0 ≤ ((ss.getD s []).getD j []).getD 7 0 ∧ ((ss.getD s []).getD j []).getD 7 0 < (N : Int) := fun s hs j hj => by
    have hs' : s < ss.length := by rw [hN.out]; exact hs
    rw [getD_eq hs'] at hj ⊢
    rw [getD_eq hj]
    have h := ((wA.st _ (List.getElem_mem hs')).2 _ (List.getElem_mem hj)).2
    rw [hN.out] at h
    exact h
  have hit0 : Hid (itA ss (N + 1) (List.replicate N true) = some (lvA ss)) := by
    have h := lvA_it ss
    rw [hN.out] at h; exact h
  have hK := Lib.hid (fun W (hb : Below w.heap.size w W) => hsc.keep hb)
  replace hto := Lib.hid hto
  replace hs1 := Lib.hid hs1
  clear hR ho1 k2 hsc hsa
  go_enter Tryz.func36, Tryz.ntmps36
  go_wp2_with fail
  rw [← hW1]
  replace hW1 := Lib.hid hW1
  refine HR.out.mono ?_
  rintro e W2 ⟨v2, rfl, ho2, hb2⟩
  obtain ⟨g, cap, rfl, hgl, hgh⟩ := ho2.form hpos
  have hwg : w.heap.size < g := by have := hs1.out; omega
  obtain ⟨W3, hW3⟩ : ∃ W3, W3 = W2.alloc (.cells #[.slice (some ⟨g, 0, none⟩) N cap] 71) := ⟨_, rfl⟩
  have hb3 : Below W2.heap.size W2 W3 := by rw [hW3]; exact (Below.refl _ _).alloc (Nat.le_refl _) _
  have kb : W3.heap[W2.heap.size]? = some (.cells #[.slice (some ⟨g, 0, none⟩) N cap] 71) := by rw [hW3]; exact heap_alloc_new _ _
  have kA2 := (hb2.block _ (Array.getElem?_eq_some_iff.1 k1).1).trans k1
  have kA := (hb3.block _ (Array.getElem?_eq_some_iff.1 kA2).1).trans kA2
  have hbw3 := bt (bt hb1 hb2 hb1.size) hb3 (bt hb1 hb2 hb1.size).size
  have ho3 := (ho2.keep hb3).base hb1.size
  clear ho2 k1 kA2
  go_wp2_with fail
  rw [← hW3]
  replace hW3 := Lib.hid hW3
  have hf0 : Hid (true = false → List.replicate N true = lvA ss) := fun h => absurd h (by decide)
  have ht0 : Hid (true = true → itA ss (N + 1) (List.replicate N true) = some (lvA ss)) := fun _ => hit0.out
  obtain ⟨b, hbe⟩ : ∃ b, W2.heap.size = b := ⟨_, rfl⟩
  rw [hbe] at kb hgh ⊢
  have hwb : w.heap.size < b := by omega
  replace hbe := Lib.hid hbe
  clear hb2 hb3
  go_loopg [4] (N + 1) (fun f cv wr => ∃ (L : List Bool) (c : Bool), cv = .bool c ∧ OB wr w.heap.size (.slice (some ⟨g, 0, none⟩) N cap) N L ∧ Below w.heap.size w wr ∧ wr.heap[w.heap.size]? = some (.cells #[.int .i64 n, .slice (some ⟨sb, so, none⟩) N sc] 24) ∧ wr.heap[b]? = some (.cells #[.slice (some ⟨g, 0, none⟩) N cap] 71) ∧ Hid (c = true → itA ss f L = some (lvA ss)) ∧ Hid (c = false → L = lvA ss))
  case atStart => exact ⟨_, true, rfl, ho3, hbw3, kA, kb, ht0, hf0⟩
  case round =>
    clear ho3 hbw3 kA kb ht0 hf0
    obtain ⟨L, c, rfl, ho, hbw, kA, kb, hct, hcf⟩ := hrel
    cases c
    · have hLe := hcf.out rfl
      subst hLe
      have e0 := box_cell (j := 0) kb rfl
      have hfin := Lib.hid ho
      clear ho
      go_wp2
      go_ret
      exact ⟨_, rfl, hfin.out, hbw⟩
    · obtain ⟨f, rfl⟩ : ∃ f, gk = f + 1 := by
        cases gk with
        | zero => exact absurd (hct.out rfl) (by simp [itA])
        | succ f => exact ⟨f, rfl⟩
      have hit := Lib.hid (hct.out rfl)
      have ho0 : OB wr w.heap.size (.slice (some ⟨g, 0, none⟩) N cap) N (psK ss 0 0 L) := ho
      obtain ⟨p0, p1⟩ := box2 kA
      obtain ⟨wa, hwa⟩ : ∃ wa, wa = wr := ⟨_, rfl⟩
      subst hwa
      clear ho hct hcf
      go_wp2_with fail
      go_loopw [4, 16] (fun cv sv wr => ∃ (s : Nat) (c : Bool), sv = .int .i64 s ∧ s ≤ N ∧ cv = .bool c ∧ OB wr w.heap.size (.slice (some ⟨g, 0, none⟩) N cap) N (psK ss s 0 L) ∧ Below w.heap.size w wr ∧ wr.heap[w.heap.size]? = some (.cells #[.int .i64 n, .slice (some ⟨sb, so, none⟩) N sc] 24) ∧ wr.heap[b]? = some (.cells #[.slice (some ⟨g, 0, none⟩) N cap] 71) ∧ Hid (c = true → psK ss s 0 L ≠ L) ∧ Hid (c = false → psK ss s 0 L = L)) (fun _ sv _ => N - (intOf sv).toNat)
      case atStart => exact ⟨0, false, rfl, by omega, rfl, ho0, hbw, kA, kb, fun h => absurd h (by decide), fun _ => rfl⟩
      case round =>
        clear ho0 p0 p1 kA kb hbw
        obtain ⟨s, c, rfl, hs, rfl, ho, hbw, kA, kb, hct, hcf⟩ := hrel
        by_cases hlts : s < N
        · have hsi : (s : Int) < (N : Int) := by omega
          have hsn := psK_snoc (ss := ss) s 0 L
          rw [Nat.zero_add] at hsn
          obtain ⟨u, hu, hks⟩ := hK.out wr hbw s (by rw [hN.out]; exact hlts)
          have hto2 := hto.out s hlts
          have hlv : lvB ss (psK ss s 0 L) s = (ss.getD s []).any fun m => (psK ss s 0 L).getD (mvTo m) false := rfl
          have hne := psK_ne (ss := ss) (L := L) (s := s)
          have hno := psAt_no (ss := ss) (M := psK ss s 0 L) (s := s)
          have hyes := psAt_yes (ss := ss) (M := psK ss s 0 L) (s := s)
          obtain ⟨M, hM⟩ : ∃ M, psK ss s 0 L = M := ⟨_, rfl⟩
          rw [hM] at ho hsn hlv hne hno hyes hct hcf
          replace hM := Lib.hid hM
          have HC := containsLive hks kb ho hto2
          rw [← hlv] at HC
          obtain ⟨xa, xc, hus⟩ := hks.shape
          subst hus
          have hc := ho.cell hlts
          have hf := ho.free s
          have e0 := box_cell (j := 0) kb rfl
          obtain ⟨b1, hb1e⟩ : ∃ b1, M.getD s false = b1 := ⟨_, rfl⟩
          obtain ⟨q, hq⟩ : ∃ q, lvB ss M s = q := ⟨_, rfl⟩
          rw [hb1e] at hc hne hno hyes
          rw [hq] at HC hne hno hyes
          replace HC := Lib.hid HC
          replace hb1e := Lib.hid hb1e
          replace hq := Lib.hid hq
          clear hlv hks hto2
          cases b1
          · have hsame := hno (fun h => absurd h (by decide))
            rw [hsame] at hsn
            have hho := Lib.hid ho
            replace hsn := Lib.hid hsn
            clear ho hne hno hyes hsame
            go_wp2
            go_roundw
            case rel => exact ⟨s + 1, c, by go_num, hlts, by first | rfl | trivial, by rw [hsn.out]; exact hho.out, hbw, kA, kb, by rw [hsn.out]; exact hct, by rw [hsn.out]; exact hcf⟩
            case measure => simp [intOf]; omega
          · cases q
            · have hset := hyes rfl rfl
              have hdiff := hne rfl rfl
              rw [← hsn] at hdiff
              rw [hset] at hsn
              replace hsn := Lib.hid hsn
              replace hdiff := Lib.hid hdiff
              have hho := Lib.hid ho
              clear ho hne hno hyes hset hf
              go_wp2_with fail
              refine HC.out.mono ?_
              rintro e w2 ⟨rfl, hb2⟩
              have ho2 := hho.out.keep hb2
              have hc2 := ho2.cell hlts
              rw [hb1e.out] at hc2
              have hf2 := ho2.free s
              have kb2 := (hb2.block _ (Array.getElem?_eq_some_iff.1 kb).1).trans kb
              have kA2 := (hb2.block _ (Array.getElem?_eq_some_iff.1 kA).1).trans kA
              have e2 := box_cell (j := 0) kb2 rfl
              have hbw2 := bt hbw hb2 hbw.size
              have hst := ho2.store s false
              have hbf := Below.setCell (p := ⟨g, s, none⟩) hbw2 (show w.heap.size ≤ g by omega) (.bool false)
              have kA3 := (Below.heap_setCell w2 ⟨g, s, none⟩ (.bool false) w.heap.size (by show w.heap.size ≠ g; omega)).trans kA2
              have kb3 := (Below.heap_setCell w2 ⟨g, s, none⟩ (.bool false) b (by show b ≠ g; omega)).trans kb2
              clear e0 hc hho ho2
              go_wp2
              go_roundw
              case rel => exact ⟨s + 1, true, by go_num, hlts, by first | rfl | trivial, by rw [hsn.out]; exact hst, hbf, kA3, kb3, fun _ => hdiff.out, fun h => absurd h (by decide)⟩
              case measure => simp [intOf]; omega
            · have hsame := hno (fun _ => rfl)
              rw [hsame] at hsn
              replace hsn := Lib.hid hsn
              have hho := Lib.hid ho
              clear ho hne hno hyes hsame hf
              go_wp2_with fail
              refine HC.out.mono ?_
              rintro e w2 ⟨rfl, hb2⟩
              have ho2 := hho.out.keep hb2
              have kb2 := (hb2.block _ (Array.getElem?_eq_some_iff.1 kb).1).trans kb
              have kA2 := (hb2.block _ (Array.getElem?_eq_some_iff.1 kA).1).trans kA
              have hbw2 := bt hbw hb2 hbw.size
              clear e0 hc hho
              go_wp2
              go_roundw
              case rel => exact ⟨s + 1, c, by go_num, hlts, by first | rfl | trivial, by rw [hsn.out]; exact ho2, hbw2, kA2, kb2, by rw [hsn.out]; exact hct, by rw [hsn.out]; exact hcf⟩
              case measure => simp [intOf]; omega
        · obtain rfl : s = N := by omega
          have hge : ¬ ((s : Int) < (s : Int)) := by omega
          have hps : psK ss s 0 L = psA ss L := by rw [psA, hN.out]
          rw [hps] at ho hct hcf
          have ht2 : Hid (c = true → itA ss f (psA ss L) = some (lvA ss)) := fun h => by
            have h1 := hit.out
            rw [itA, if_neg (hct.out h)] at h1; exact h1
          have hf2 : Hid (c = false → psA ss L = lvA ss) := fun h => by
            have h1 := hit.out
            rw [itA, if_pos (hcf.out h)] at h1
            injection h1 with h1
            rw [hcf.out h]; exact h1
          have hho := Lib.hid ho
          clear ho hct hcf hps
          go_wp2
          go_roundg f
          case measure => omega
          case rel => exact ⟨psA ss L, c, by first | rfl | trivial, hho.out, hbw, kA, kb, ht2, hf2⟩
end Go.Proofs.YtiiiegflobihjaaGreat

/- slices.Repeat of one true; combine.endless. -/
namespace Go.Proofs.YtiiiegflobihjaaGreat
open Go.RowKit

theorem mask32_ok : ((List.range 1100).all fun x => decide (bits .and .u64 (x : Int) 4294967295 = (x : Int))) = true := by decide +kernel
theorem mask32 {n : Nat} (h : n < 1100) : bits .and .u64 (n : Int) 4294967295 = (n : Int) := of_decide_eq_true (List.all_eq_true.1 mask32_ok n (List.mem_range.2 h))
theorem mulOne {n : Nat} (hn : n < 1100) (w : World) : Calls Tryz.prog 125 #[.int .u64 1, .int .u64 (n : Int)] w fun e w' => e = .returned (.tuple #[.int .u64 0, .int .u64 (n : Int)]) ∧ w' = w := by
  have h1 := mask32 hn
  have h2 : bits .and .u64 1 4294967295 = 1 := mask32 (n := 1) (by omega)
  have h3 : bits .and .u64 0 4294967295 = 0 := mask32 (n := 0) (by omega)
  have h5 : IntKind.u64.wrap (n : Int) = (n : Int) := by rw [IntKind.wrap_u64]; omega
  have h6 : (n : Int) / 4294967296 = 0 := by omega
  go_enter Tryz.func125, Tryz.ntmps125
  go_wp2
  go_ret2
  exact ⟨rfl, rfl⟩
theorem mulOne' {n : Nat} (hn : n < 1100) (w : World) : Calls Tryz.prog 99 #[.int .u64 1, .int .u64 (n : Int)] w fun e w' => e = .returned (.tuple #[.int .u64 0, .int .u64 (n : Int)]) ∧ w' = w := by
  have h5 : IntKind.u64.wrap (n : Int) = (n : Int) := by rw [IntKind.wrap_u64]; omega
  go_enter Tryz.func99, Tryz.ntmps99
  go_wp2_with fail
  refine (mulOne hn w).mono ?_
  rintro e w2 ⟨rfl, hw2⟩
  replace hw2 := hw2.symm
  subst hw2
  go_wp2
  go_ret2
  exact ⟨rfl, rfl⟩
/-- A row of ones and zeros. -/
def trueR (n m : Nat) : List Value := List.replicate m (.bool true) ++ List.replicate (n - m) (.bool false)
theorem trueR_len {n m : Nat} (h : m ≤ n) : (trueR n m).length = n := by simp [trueR]; omega
theorem trueR_at {n m j : Nat} (h : j < m) : (trueR n m)[j]? = some (.bool true) := by
  rw [trueR, List.getElem?_append_left (by simpa using h), List.getElem?_replicate, if_pos h]
theorem trueR_step {n m p : Nat} (h : m + p ≤ n) : (trueR n m).take m ++ List.replicate p (.bool true) ++ (trueR n m).drop (m + p) = trueR n (m + p) := by
  have h1 : (trueR n m).take m = List.replicate m (.bool true) := by rw [trueR, List.take_left' (by simp)]
  have h2 : (trueR n m).drop (m + p) = List.replicate (n - (m + p)) (.bool false) := by
    rw [trueR, List.drop_append, List.drop_replicate, List.drop_replicate, List.length_replicate]
    rw [show m - (m + p) = 0 by omega, show n - m - (m + p - m) = n - (m + p) by omega]; simp
  rw [h1, h2, trueR, ← List.replicate_append_replicate]
theorem runCopyTrue {W : World} {g n m p : Nat} (hg : W.heap[g]? = some (.cells (trueR n m).toArray 4)) (hm : m + p ≤ n) {a : Addr} {sl sc dc : Nat} (hp : p = Nat.min sl (n - m)) (hsrc : ∀ j, j < p → W.cell? (a.add j) = some (.bool true)) (ty : TypeId) :
    (Builtin.copy_ #[71, 71] ty #[.slice (some ⟨g, m, none⟩) (n - m) dc, .slice (some a) sl sc]).run Tryz.prog W = .ok (.int .i64 (p : Int)) (W.setRow g (trueR n (m + p)).toArray) := by
  have h := run_copy_row (P := Tryz.prog) W 71 71 ty 4 g m (n - m) dc a sl sc (trueR n m).toArray 4 (List.replicate p (.bool true)) (by kernel_rfl) (by kernel_rfl) hg (by simpa using hp) (fun j v hj => ?_) (by rw [List.length_replicate, List.size_toArray, trueR_len (by omega)]; exact hm) (fun v hv => by rw [List.eq_of_mem_replicate hv]; rfl)
  · rw [h, List.length_replicate]
    show _ = Result.ok _ (W.setRow g (trueR n (m + p)).toArray)
    rw [← trueR_step hm]; rfl
  · have hjp : j < p := by
      have := (List.getElem?_eq_some_iff.1 hj).1
      rwa [List.length_replicate] at this
    rw [List.getElem?_replicate, if_pos hjp] at hj
    injection hj with hj
    subst hj
    exact hsrc j hjp
theorem setRow_same {W : World} {g : Nat} {cur cs : Array Value} {t : TypeId} (hg : W.heap[g]? = some (.cells cur t)) : (W.setRow g cs).heap[g]? = some (.cells cs t) := by
  simp [World.setRow, Array.getElem?_modify, hg]
theorem setRow_below {B : Nat} {w0 W : World} (h : Below B w0 W) {g : Nat} (hg : B ≤ g) (cs : Array Value) : Below B w0 (W.setRow g cs) :=
  h.trans ⟨rfl, rfl, rfl, by simp [World.setRow], fun k hk => by simp [World.setRow, Array.getElem?_modify, show ¬ g = k by omega]⟩
theorem runMakeB (n : Nat) (hn : n ≤ 1000000) (w : World) : (Instr.makeSlice 71 (.int .i64 (n : Int)) (.int .i64 (n : Int))).run Tryz.prog w = .ok (.slice (some ⟨w.heap.size, 0, none⟩) n n) (w.alloc (.cells (trueR n 0).toArray 4)) := by
  have h := run_make_row' (P := Tryz.prog) 71 4 (.bool false) 1 (by kernel_rfl) (by kernel_rfl) rfl .i64 .i64 n (by omega) (by omega) w
  rw [h]
  have : madeCells #[.bool false] n = (trueR n 0).toArray := by
    have h1 := toList_madeCells_one (.bool false) n
    rw [trueR, List.replicate_zero, List.nil_append, Nat.sub_zero, ← h1, Array.toArray_toList]
  rw [this]
set_option maxRecDepth 100000 in
set_option maxHeartbeats 1600000 in
theorem repeatTrue {w : World} {a : Addr} {c n : Nat} (hc : w.cell? a = some (.bool true)) (hn0 : 0 < n) (hn : n ≤ 1000) :
    Calls Tryz.prog 73 #[.slice (some a) 1 c, .int .i64 (n : Int)] w fun e w' => ∃ u, e = .returned u ∧ OB w' w.heap.size u n (List.replicate n true) ∧ Below w.heap.size w w' := by
  have hu : IntKind.u64.wrap (n : Int) = (n : Int) := by rw [IntKind.wrap_u64]; omega
  have hi : IntKind.i64.wrap (n : Int) = (n : Int) := IntWalk.i64_in _ (by omega)
  have hlt0 : decide ((n : Int) < 0) = false := decide_eq_false (by omega)
  have hgt : decide ((9223372036854775807 : Int) < (n : Int)) = false := decide_eq_false (by omega)
  have hM := Lib.hid (fun W => mulOne' (n := n) (by omega) W)
  have hmk := runMakeB n (by omega)
  obtain ⟨W1, hW1⟩ : ∃ W1, W1 = w.alloc (.cells (trueR n 0).toArray 4) := ⟨_, rfl⟩
  have hb1 : Below w.heap.size w W1 := by rw [hW1]; exact (Below.refl _ _).alloc (Nat.le_refl _) _
  have hg1 : W1.heap[w.heap.size]? = some (.cells (trueR n 0).toArray 4) := by rw [hW1]; exact heap_alloc_new _ _
  have hcp := runCopyTrue (a := a) (sl := 1) (sc := c) (dc := n) (p := 1) hg1 (by omega) (by rw [Nat.sub_zero]; simp [Nat.min_def]; omega) (fun j hj => by
    have : j = 0 := by omega
    subst this
    have h2 := cell_kept hb1 hc
    rwa [show a.add 0 = a by unfold Addr.add; split <;> simp_all])
  rw [Nat.sub_zero] at hcp
  rw [hW1] at hcp
  go_enter Tryz.func73, Tryz.ntmps73
  go_wp2_with (go_at_call 99; refine (hM.out _).mono ?_; rintro e w2 ⟨rfl, hw2⟩; replace hw2 := hw2.symm; subst hw2)
  rw [← hW1]
  rw [← hW1] at hcp
  have hs0 := setRow_same (cs := (trueR n (0 + 1)).toArray) hg1
  have hbs0 := setRow_below hb1 (Nat.le_refl _) (trueR n (0 + 1)).toArray
  rw [Nat.zero_add] at hs0 hbs0
  clear hcp hg1
  have hmx : Tryz.prog.follows .mixedOrders = true := by kernel_rfl
  go_loopw [8] (fun mv wr => ∃ m : Nat, mv = .int .i64 m ∧ 0 < m ∧ m ≤ n ∧ wr.heap[w.heap.size]? = some (.cells (trueR n m).toArray 4) ∧ Below w.heap.size w wr) (fun mv _ => n - (intOf mv).toNat)
  case atStart => exact ⟨1, rfl, by omega, by omega, hs0, hbs0⟩
  case round =>
    clear hs0 hbs0
    obtain ⟨m, rfl, hm0, hmn, hg, hbr⟩ := hrel
    by_cases hlt : m < n
    · have hmi : (m : Int) < (n : Int) := by omega
      have hmi2 : (m : Int) ≤ (n : Int) := by omega
      have hm00 : (0 : Int) ≤ (m : Int) := by omega
      have hnm : ¬ n = m := by omega
      have hn00 : ¬ n = 0 := by omega
      obtain ⟨p, hp⟩ : ∃ p, p = Nat.min m (n - m) := ⟨_, rfl⟩
      have hp2 : p = min m (n - m) := hp
      have hp0 : 0 < p := by omega
      have hpm : p ≤ m := by omega
      have hpn : m + p ≤ n := by omega
      have hcp := runCopyTrue (W := wr.drew) (a := ⟨w.heap.size, 0, none⟩) (sl := m) (sc := n) (dc := n - m) (p := p) hg hpn hp (fun j hj => by
        rw [Addr.add_lit, Nat.zero_add]
        exact cell_of_row _ _ j _ _ _ hg |>.trans (by rw [List.getElem?_toArray]; exact trueR_at (by omega)))
      have hs1 := setRow_same (W := wr.drew) (cs := (trueR n (m + p)).toArray) hg
      have hbs1 := setRow_below hbr.drew (Nat.le_refl _) (trueR n (m + p)).toArray
      have hwp : IntKind.i64.wrap ((m : Int) + (p : Int)) = ((m + p : Nat) : Int) := by rw [← Int.natCast_add]; exact IntWalk.i64_in _ (by omega)
      replace hp := Lib.hid hp
      clear hp2 hg
      go_wp2_with fail
      go_region_held3 (fun _ => True) (trivial) (fail)
      go_wp2
      go_roundw
      case rel => exact ⟨m + p, by go_num, by omega, hpn, hs1, hbs1⟩
      case measure => simp [intOf]; omega
    · obtain rfl : m = n := by omega
      have hge : ¬ ((m : Int) < (m : Int)) := by omega
      have hOB : OB wr w.heap.size (.slice (some ⟨w.heap.size, 0, none⟩) m m) m (List.replicate m true) := by
        refine ⟨by simp, .inr ⟨_, m, _, rfl, Nat.le_refl _, hg, Nat.le_refl _, by unfold maxLen; omega, by rw [List.size_toArray, trueR_len (Nat.le_refl _), Nat.mul_one], ?_⟩⟩
        simp [trueR]
      replace hOB := Lib.hid hOB
      clear hg
      go_wp2
      go_ret
      exact ⟨_, rfl, hOB.out, hbr⟩
theorem repOK {N : Nat} (h0 : 0 < N) (h1 : N ≤ 1000) : RepOK N := fun W B u hO => by
  obtain ⟨g, cap, rfl, _, _⟩ := hO.form (by omega)
  exact repeatTrue (hO.cell (j := 0) (by omega)) h0 h1
/-- combine.endless. -/
theorem endlessC {w : World} {v : Value} {n : Int} {ss : List (List (List Int))} (hA : AdvV w v n ss) (wA : AdW ss) :
    Calls Tryz.prog 36 #[v] w fun e w' => ∃ u, e = .returned u ∧ OB w' w.heap.size u ss.length (lvA ss) ∧ Below w.heap.size w w' := endlessA hA wA (repOK wA.pos wA.len)
end Go.Proofs.YtiiiegflobihjaaGreat

/- combine.And's function of moves. -/
namespace Go.Proofs.YtiiiegflobihjaaGreat
open Go.RowKit

set_option maxRecDepth 100000 in
set_option maxHeartbeats 3200000 in
theorem andMv {w : World} {bA bL g N cap B : Nat} {live : List Bool} {n : Int} {ss : List (List (List Int))} {aa : Option Addr} {ac : Nat}
    (kA : w.heap[bA]? = some (.cells #[.int .i64 n, .slice aa ss.length ac] 24)) (kL : w.heap[bL]? = some (.cells #[.slice (some ⟨g, 0, none⟩) N cap] 71))
    (hA : AdvV w (.agg #[.int .i64 n, .slice aa ss.length ac]) n ss) (hO : OB w B (.slice (some ⟨g, 0, none⟩) N cap) N live) (wA : AdW ss) (hN : N = ss.length) {k : Nat} (hk : k < ss.length) :
    Calls Tryz.prog 37 #[.agg #[.int .i64 (k : Int), .int .i64 0, .string ⟨#[]⟩], .pointer (some ⟨bA, 0, none⟩), .pointer (some ⟨bL, 0, none⟩)] w (ArOut w (lvSt ss live ((k : Int), 0, []))) := by
  obtain ⟨sv, hsv, sa, sc, sb, so, rfl, hsa, hsc, hs0⟩ := hA
  injection hsv with hsv
  have hsv2 := congrArg (fun a => a.toList.getD 1 (.int .i64 0)) hsv
  obtain ⟨rfl, rfl⟩ : aa = sa ∧ ac = sc := by
    have h : Value.slice aa ss.length ac = Value.slice sa ss.length sc := hsv2
    injection h with h1 _ h3; exact ⟨h1, h3⟩
  obtain rfl := hsa (by omega)
  have hto : ∀ j < (ss.getD k []).length, 0 ≤ ((ss.getD k []).getD j []).getD 7 0 ∧ ((ss.getD k []).getD j []).getD 7 0 < (N : Int) := fun j hj => by
    rw [getD_eq hk] at hj ⊢
    rw [getD_eq hj]
    have h := ((wA.st _ (List.getElem_mem hk)).2 _ (List.getElem_mem hj)).2
    rw [← hN] at h
    exact h
  have hxl : (ss.getD k []).length ≤ 4096 := by rw [getD_eq hk]; exact (wA.st _ (List.getElem_mem hk)).1
  have hlv : lvSt ss live ((k : Int), 0, []) = (ss.getD k []).filterMap (lvF live) := rfl
  rw [hlv]
  obtain ⟨W1, hW1⟩ : ∃ W1, W1 = w.alloc (.cells #[.int .i64 (k : Int), .int .i64 0, .string ⟨#[]⟩] 62) := ⟨_, rfl⟩
  have hb1 : Below w.heap.size w W1 := by rw [hW1]; exact (Below.refl _ w).alloc (Nat.le_refl _) _
  obtain ⟨u, hu, hks⟩ := hsc k hk
  obtain ⟨x, hx⟩ : ∃ x, ss.getD k [] = x := ⟨_, rfl⟩
  rw [hx] at hks hto hxl ⊢
  obtain ⟨xa, xc, xb, xo, rfl, hxa, hxc, _⟩ := hks
  have e0 := cell_kept hb1 hu
  obtain ⟨a0, a1⟩ := box2 ((hb1.block _ (Array.getElem?_eq_some_iff.1 kA).1).trans kA)
  have n0 : W1.cell? ⟨w.heap.size, 0, none⟩ = some (.int .i64 (k : Int)) := by rw [hW1]; exact box_cell (heap_alloc_new _ _) rfl
  rw [hW1] at e0 a0 a1 n0
  have hki : (k : Int) < (ss.length : Int) := by omega
  have hcl := Lib.hid (fun W (hb : Below w.heap.size w W) => And.intro ((hb.block _ (Array.getElem?_eq_some_iff.1 kL).1).trans kL) (And.intro (hO.keep hb) (hxc.keep hb)))
  have ho0 : OwX 75 10 EAr W1 W1.heap.size (.slice none 0 0) ((x.take 0).filterMap (lvF live)).length ((x.take 0).filterMap (lvF live)) := OwX.nil _ _
  replace hxa := Lib.hid hxa
  replace hto := Lib.hid hto
  replace hx := Lib.hid hx
  clear hsc hsv hsv2 kA kL hO hxc hu hlv hsa
  go_enter Tryz.func37, Tryz.ntmps37
  go_wp2_with fail
  rw [← hW1]
  replace hW1 := Lib.hid hW1
  clear e0 a0 a1 n0
  go_loopw [5, 15] (fun ov jv wr => ∃ j : Nat, jv = .int .i64 j ∧ j ≤ x.length ∧ OwX 75 10 EAr wr W1.heap.size ov ((x.take j).filterMap (lvF live)).length ((x.take j).filterMap (lvF live)) ∧ Below W1.heap.size W1 wr) (fun _ jv _ => x.length - (intOf jv).toNat)
  case atStart => exact ⟨0, rfl, by omega, ho0, Below.refl _ _⟩
  case round =>
    clear ho0
    obtain ⟨j, rfl, hj, hO, hbr⟩ := hrel
    obtain ⟨oa, oc, hov⟩ := hO.shape
    subst hov
    by_cases hlt : j < x.length
    · have hji : (j : Int) < (x.length : Int) := by omega
      obtain rfl := hxa.out (by omega)
      have hbw := bt hb1 hbr hb1.size
      obtain ⟨kL, hB, hxc⟩ := hcl.out wr hbw
      obtain ⟨h8, hmc⟩ := hxc j hlt
      obtain ⟨t7b, t7c⟩ := hto.out j hlt
      have hsn := take_snoc hlt ([] : List Int)
      obtain ⟨m, hm⟩ : ∃ m, x.getD j [] = m := ⟨_, rfl⟩
      rw [hm] at h8 hmc t7b t7c hsn
      obtain ⟨m0, m1, m2, m3, m4, m5, m6, m7, rfl⟩ := eight h8
      have t7b : 0 ≤ m7 := t7b
      have t7c : m7 < (N : Int) := t7c
      obtain ⟨t, rfl⟩ : ∃ t : Nat, m7 = (t : Int) := ⟨m7.toNat, by omega⟩
      have htl : t < N := by omega
      obtain ⟨c0, c1, c2, c3, c4, c5, c6, c7⟩ := hmc.all8
      obtain ⟨Wb, hWb⟩ : ∃ Wb, Wb = wr.alloc (.cells #[.int .i64 m0, .int .i64 m1, .int .i64 m2, .int .i64 m3, .int .i64 m4, .int .i64 m5, .int .i64 m6, .int .i64 (t : Int)] 58) := ⟨_, rfl⟩
      have hbb : Below wr.heap.size wr Wb := by rw [hWb]; exact (Below.refl _ _).alloc (Nat.le_refl _) _
      have kM : Wb.heap[wr.heap.size]? = some (.cells #[.int .i64 m0, .int .i64 m1, .int .i64 m2, .int .i64 m3, .int .i64 m4, .int .i64 m5, .int .i64 m6, .int .i64 (t : Int)] 58) := by rw [hWb]; exact heap_alloc_new _ _
      have d7 := box_cell (j := 7) kM rfl
      have d0 := box_cell (j := 0) kM rfl
      have d1 := box_cell (j := 1) kM rfl
      have d2 := box_cell (j := 2) kM rfl
      have d3 := box_cell (j := 3) kM rfl
      have d4 := box_cell (j := 4) kM rfl
      have d5 := box_cell (j := 5) kM rfl
      have d6 := box_cell (j := 6) kM rfl
      have l0 := cell_kept hbb (box_cell (j := 0) kL rfl)
      have l1 := cell_kept hbb (hB.cell htl)
      have hOb := hO.keep (EAr.stab _) hbb
      have hbrb := bt hbr hbb hbr.size
      obtain ⟨L, hL⟩ : ∃ L, (x.take j).filterMap (lvF live) = L := ⟨_, rfl⟩
      have hLl : L.length ≤ 4096 := by
        rw [← hL]
        refine Nat.le_trans (List.length_filterMap_le _ _) ?_
        rw [List.length_take]; omega
      have hmv : lvF live [m0, m1, m2, m3, m4, m5, m6, (t : Int)] = if live.getD t false then some ([m0, m1, m2, m3, m4, m5, m6], ((t : Int), 0, [])) else none := by
        simp [lvF, mvTo, rdOf]
      have hstp : (x.take (j + 1)).filterMap (lvF live) = L ++ (lvF live [m0, m1, m2, m3, m4, m5, m6, (t : Int)]).toList := by
        rw [hsn, List.filterMap_append, hL]
        cases h : lvF live [m0, m1, m2, m3, m4, m5, m6, (t : Int)] <;> simp [h]
      rw [hL] at hOb ⊢
      obtain ⟨q, hq⟩ : ∃ q, live.getD t false = q := ⟨_, rfl⟩
      rw [hq] at l1 hmv
      rw [hmv] at hstp
      replace hm := Lib.hid hm
      replace hL := Lib.hid hL
      replace hq := Lib.hid hq
      replace hmv := Lib.hid hmv
      replace hstp := Lib.hid hstp
      rw [hWb] at d0 d1 d2 d3 d4 d5 d6 d7 l0 l1
      clear hO kL hB hxc hmc h8 t7b t7c hsn kM
      cases q
      · have hst3 : Hid ((x.take (j + 1)).filterMap (lvF live) = L) := by show _ = _; rw [hstp.out]; simp
        clear hstp
        go_wp2
        rw [← hWb]
        go_roundw
        case rel => exact ⟨j + 1, by go_num, hlt, by rw [hst3.out]; exact hOb, hbrb⟩
        case measure => simp [intOf]; omega
      · have hst3 : Hid ((x.take (j + 1)).filterMap (lvF live) = L ++ [([m0, m1, m2, m3, m4, m5, m6], ((t : Int), 0, []))]) := by show _ = _; rw [hstp.out]; rfl
        have hL9 : L.length ≤ 1000000000000 := by omega
        have hB9 : W1.heap.size ≤ Wb.heap.size := hbrb.size
        have hEA : EAr Wb [.int .i64 m0, .int .i64 m1, .int .i64 m2, .int .i64 m3, .int .i64 m4, .int .i64 m5, .int .i64 m6, .int .i64 (t : Int), .int .i64 0, .string ⟨#[]⟩] ([m0, m1, m2, m3, m4, m5, m6], ((t : Int), 0, [])) := ⟨rfl, rfl⟩
        have hc10 : ∀ u ∈ (#[.int .i64 m0, .int .i64 m1, .int .i64 m2, .int .i64 m3, .int .i64 m4, .int .i64 m5, .int .i64 m6, .int .i64 (t : Int), .int .i64 0, .string ⟨#[]⟩] : Array Value).toList, u.oneCell' = true := fun u hu => by
          simp only [List.mem_cons, List.not_mem_nil, or_false] at hu
          rcases hu with rfl | rfl | rfl | rfl | rfl | rfl | rfl | rfl | rfl | rfl <;> rfl
        have hsz : wr.heap.size + 1 = Wb.heap.size := by rw [hWb]; simp
        replace hsz := Lib.hid hsz
        replace hEA := Lib.hid hEA
        replace hc10 := Lib.hid hc10
        clear hstp
        go_wp2_with (at_builtin; rw [← hWb]; refine wpAppX (x := ([m0, m1, m2, m3, m4, m5, m6], ((t : Int), 0, []))) elemAr (by decide) (by decide) (EAr.stab _) rfl _ _ rfl rfl hOb rfl hsz.out rfl hc10.out hEA.out hL9 hB9 ?_)
        intro v3 w3 ho3 hg3 hb3 hx3
        rw [← hWb] at hb3
        have hbf := hbrb.trans hb3
        go_wp2
        go_roundw
        case rel => exact ⟨j + 1, by go_num, hlt, by rw [hst3.out, List.length_append]; exact ho3, hbf⟩
        case measure => simp [intOf]; omega
    · obtain rfl : j = x.length := by omega
      have hge : ¬ ((x.length : Int) < (x.length : Int)) := by omega
      rw [List.take_length] at hO
      have hbf := bt hb1 hbr hb1.size
      have hfin := Lib.hid (hO.base (B' := w.heap.size) hb1.size)
      clear hO
      go_wp2
      go_ret
      exact ⟨_, rfl, hfin.out, hbf⟩
end Go.Proofs.YtiiiegflobihjaaGreat

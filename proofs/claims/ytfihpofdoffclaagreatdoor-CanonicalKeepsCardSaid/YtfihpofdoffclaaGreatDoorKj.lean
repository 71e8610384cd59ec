/- Texts of this claim, put together: D0 D1 E0 E1. -/
import Derived.Test.YtfihpofdoffclaaGreatDoorKi
import Derived.Test.YtfihpofdoffclaaGreatDoorKa
import Derived.Test.YtfihpofdoffclaaGreatDoorKb
import Derived.Lib.LazyBuf

/- Labels of numbers. -/
namespace Go.Proofs.YtfihpofdoffclaaGreatDoor
open Go.RowKit Go.ChangeMaps Go.MapKept

def intV (n : Nat) : Value := .int .i64 (n : Int)
theorem umInt : Tryz.prog.underlying 127 = some (.map 3 3) := by kernel_rfl
/-- The labels of the first keys, and zeros. -/
def nxG (ks : List Nat) (i : Nat) : List Int := natI ((lbl ks).take i ++ List.replicate (ks.length - i) 0)
theorem nxG_zero (ks : List Nat) : nxG ks 0 = List.replicate ks.length 0 := by simp [nxG, natI]
theorem nxG_all (ks : List Nat) : nxG ks ks.length = natI (lbl ks) := by
  rw [nxG, Nat.sub_self, List.take_of_length_le (by rw [lbl_length]; exact Nat.le_refl _)]; simp
theorem nxG_step {ks : List Nat} {i : Nat} (h : i < ks.length) {x : Nat} (hx : ks.getD i 0 = x) : nxG ks (i + 1) = (nxG ks i).set i ((ixOf (dd [] (ks.take (i + 1))) x : Nat) : Int) := by
  have hlen := lbl_length ks
  have hx1 : (lbl ks).getD i 0 = ixOf (dd [] (ks.take (i + 1))) x := by
    rw [lbl_getD h]
    show ixOf _ _ = _
    have e1 : ks[i] = x := by rw [← hx, getD_eq h]
    have e3 : dd [] ks = dd (dd [] (ks.take (i + 1))) (ks.drop (i + 1)) := by conv => lhs; rw [← List.take_append_drop (i + 1) ks, dd_app]
    have hm2 : x ∈ ks.take (i + 1) := by rw [take_snoc h 0, hx]; simp
    rw [e1, e3]
    exact dd_idx (dd_mem hm2)
  rw [← hx1]
  refine List.ext_getElem (by simp [nxG, natI, hlen]; omega) fun j h1 h2 => ?_
  simp only [nxG, natI, List.getElem_set, List.getElem_map, List.getElem_append, List.length_take, hlen, List.getElem_take, List.getElem_replicate]
  by_cases hij : i = j
  · subst hij
    rw [dif_pos (by omega), if_pos rfl, ← getD_eq (by omega) 0]
  · rw [if_neg hij]
    by_cases hlt : j < i
    · rw [dif_pos (by omega), dif_pos (by omega)]
    · rw [dif_neg (by omega), dif_neg (by omega)]

set_option maxRecDepth 100000 in
set_option maxHeartbeats 3200000 in
theorem labelsCall {w : World} {v : Value} {ks : List Nat} (h : Ints w v (natI ks)) (h0 : 0 < ks.length) (hl : ks.length ≤ 1000) (hks : ∀ k ∈ ks, k ≤ 1000000) :
    Calls Tryz.prog 80 #[v] w fun e w' => ∃ u, e = .returned u ∧ OI w' w.heap.size u ks.length (natI (lbl ks)) ∧ Below w.heap.size w w' := by
  obtain ⟨aa, ac, ab, off, rfl, ha, hc, _⟩ := h
  rw [natI_len] at ha
  obtain rfl := ha h0
  rw [natI_len]
  have hmm := @run_makeMap Tryz.prog
  clear ha
  go_enter Tryz.func80, Tryz.ntmps80
  go_wp2_with (at_make; refine wpMakeI rfl _ _ rfl ks.length rfl rfl (by omega) (Nat.le_refl _) ?_; intro w1 ho hgr hb1)
  rw [World.size_alloc] at ho
  have hIM0 : IM intV w1 w.heap.size [] := (MX.made w).keep (hb1.block _ (by simp))
  have hbw0 : Below w.heap.size w w1 := ((Below.refl _ w).alloc (Nat.le_refl _) _).trans (hb1.mono (by simp))
  have hs0 : Hid (([] : List Nat) = dd [] (ks.take 0)) := rfl
  have hn0 : Hid (List.replicate ks.length (0 : Int) = nxG ks 0) := (nxG_zero _).symm
  have hs1 : w.heap.size + 2 ≤ w1.heap.size := by
    have h1 : w.heap.size + 1 < w1.heap.size := World.block_lt_of_cell? w1 ⟨w.heap.size + 1, 0, none⟩ (ho.cell h0)
    omega
  replace hks := Lib.hid hks
  clear hgr hb1
  go_loopw [15] (fun iv wr => ∃ (i : Nat) (seen : List Nat) (nx : List Int), iv = .int .i64 i ∧ i ≤ ks.length ∧ IM intV wr w.heap.size seen ∧ Hid (seen = dd [] (ks.take i)) ∧
    OI wr (w.heap.size + 1) (.slice (some ⟨w.heap.size + 1, 0, none⟩) ks.length ks.length) ks.length nx ∧ Hid (nx = nxG ks i) ∧ Only (fun k => k = w.heap.size ∨ k = w.heap.size + 1) w1 wr) (fun iv _ => ks.length - (intOf iv).toNat)
  case atStart => exact ⟨0, [], _, rfl, by omega, hIM0, hs0, ho, hn0, Only.refl _ _⟩
  case round =>
    clear hIM0 hs0 ho hn0
    obtain ⟨i, seen, nx, rfl, hi, hIM, hse, hnx, hnxe, hOn⟩ := hrel
    have hbr : Below w.heap.size w wr := hbw0.trans (hOn.below (by omega) (fun k hk => by rcases hk with rfl | rfl <;> omega))
    by_cases hlt : i < ks.length
    · have hci := (hc.keep hbr) i (by rw [natI_len]; exact hlt)
      rw [natI_getD] at hci
      obtain ⟨x, hx⟩ : ∃ x, ks.getD i 0 = x := ⟨_, rfl⟩
      have hxm : x ∈ ks := by rw [← hx, getD_eq hlt]; exact List.getElem_mem hlt
      have hxb := hks.out x hxm
      have hst := Lib.hid (nxG_step hlt hx)
      have htk : ks.take (i + 1) = ks.take i ++ [x] := by rw [take_snoc hlt 0, hx]
      have hsin : Hid (x ∈ seen → dd [] (ks.take (i + 1)) = seen) := fun h => by
        rw [htk, dd_snoc_in (by rw [← hse.out]; exact h)]; exact hse.out.symm
      have hsout : Hid (x ∉ seen → dd [] (ks.take (i + 1)) = seen ++ [x]) := fun h => by
        rw [htk, dd_snoc_out (by rw [← hse.out]; exact h), ← hse.out]
      have hsm : ∀ y ∈ seen, y ≤ 1000000 := fun y hy => by
        rw [hse.out] at hy
        exact hks.out y (List.mem_of_mem_take (mem_dd_nil hy))
      have hsn : seen.Nodup := by rw [hse.out]; exact dd_nodup List.nodup_nil
      rw [hx] at hci
      clear hx hxm htk
      replace hc := Lib.hid hc
      have hcn := hnx.cell hlt
      have hfn := hnx.free i
      obtain ⟨z, hz⟩ : ∃ z, nx.getD i 0 = z := ⟨_, rfl⟩
      rw [hz] at hcn
      clear hz
      rcases IM.look keyX_int umInt zInt hIM hsn hsm hxb with ⟨hin, hl1, hl2⟩ | ⟨hin, hl1, hl2⟩
      · obtain ⟨o, hput, hIM2⟩ := IM.put keyX_int umInt hIM hsm hxb hin
        have hlen := fun ty => IM.len (ty := ty) umInt hIM
        have hsd := hsout.out hin
        obtain ⟨hst2, hgr2⟩ := hnx.store i ((seen.length : Nat) : Int)
        have hix : ixOf (seen ++ [x]) x = seen.length := by
          show List.idxOf x (seen ++ [x]) = _
          rw [List.idxOf_append, if_neg hin]; simp
        have hne2 : Hid (nx.set i ((seen.length : Nat) : Int) = nxG ks (i + 1)) := by show _ = _; rw [hst.out, hsd, hix, hnxe.out]
        obtain ⟨W2, hW2⟩ : ∃ W2, W2 = setBlock wr w.heap.size o := ⟨_, rfl⟩
        rw [← hW2] at hput hIM2
        have hnx2 : OI W2 (w.heap.size + 1) (.slice (some ⟨w.heap.size + 1, 0, none⟩) ks.length ks.length) ks.length nx := by
          refine ⟨hnx.1, ?_⟩
          rcases hnx.2 with h' | ⟨g, cap, cur, h1, h2, h3, h4⟩
          · exact .inl h'
          · exact .inr ⟨g, cap, cur, h1, h2, Eq.trans (by rw [hW2]; exact setBlock_keep o (by omega)) h3, h4⟩
        have hO2 : Only (fun k => k = w.heap.size ∨ k = w.heap.size + 1) w1 W2 := by rw [hW2]; exact hOn.setBlk (.inl rfl) o
        have hcn2 := hnx2.cell hlt
        have hfn2 := hnx2.free i
        obtain ⟨z2, hz2⟩ : ∃ z, nx.getD i 0 = z := ⟨_, rfl⟩
        rw [hz2] at hcn2
        clear hz2 hst2 hgr2
        obtain ⟨q, hq⟩ : ∃ q, seen.length = q := ⟨_, rfl⟩
        rw [hq] at hput hlen hne2
        obtain ⟨hst2, hgr2⟩ := hnx2.store i ((q : Nat) : Int)
        have hIM3 := hIM2.keep (hgr2.block _ hIM2.lt (by simp))
        have hO3 := hO2.setCell (p := ⟨w.heap.size + 1, i, none⟩) (.inr rfl) (.int .i64 (q : Int))
        replace hput : (Instr.mapUpdate 127 (.map (some w.heap.size)) (.int .i64 (x : Int)) (.int .i64 (q : Nat))).run Tryz.prog wr = .ok () W2 := hput
        replace hl2 : (Instr.lookup 127 (.map (some w.heap.size)) (.int .i64 (x : Int)) true).run Tryz.prog wr = .ok (.tuple #[.int .i64 0, .bool false]) wr := hl2
        have hsd2 : Hid (seen ++ [x] = dd [] (ks.take (i + 1))) := hsd.symm
        clear hl1 hix hsd hst hsin hsout hW2 hgr2 hIM2 hO2 hq hcn hfn hsn hsm hin
        go_wp2
        go_roundw
        case rel => exact ⟨i + 1, _, _, by go_num, hlt, hIM3, hsd2, hst2, hne2, hO3⟩
        case measure => simp [intOf]; omega
      · have hsd := hsin.out hin
        obtain ⟨hst2, hgr2⟩ := hnx.store i ((ixOf seen x : Nat) : Int)
        have hne2 : Hid (nx.set i ((ixOf seen x : Nat) : Int) = nxG ks (i + 1)) := by show _ = _; rw [hst.out, hsd, hnxe.out]
        obtain ⟨q, hq⟩ : ∃ q, ixOf seen x = q := ⟨_, rfl⟩
        rw [hq] at hst2 hgr2 hne2 hl2
        have hIM3 := hIM.keep (hgr2.block _ hIM.lt (by simp))
        have hO3 := hOn.setCell (p := ⟨w.heap.size + 1, i, none⟩) (.inr rfl) (.int .i64 (q : Int))
        replace hl2 : (Instr.lookup 127 (.map (some w.heap.size)) (.int .i64 (x : Int)) true).run Tryz.prog wr = .ok (.tuple #[.int .i64 (q : Nat), .bool true]) wr := hl2
        have hsd2 : Hid (seen = dd [] (ks.take (i + 1))) := hsd.symm
        clear hl1 hsd hst hsin hsout hgr2 hq hsn hsm hin
        go_wp2
        go_roundw
        case rel => exact ⟨i + 1, _, _, by go_num, hlt, hIM3, hsd2, hst2, hne2, hO3⟩
        case measure => simp [intOf]; omega
    · obtain rfl : i = ks.length := by omega
      have hfin : OI wr w.heap.size (.slice (some ⟨w.heap.size + 1, 0, none⟩) ks.length ks.length) ks.length (natI (lbl ks)) := by
        rw [← nxG_all, ← hnxe.out]; exact hnx.base (by omega)
      replace hfin := Lib.hid hfin
      clear hnx hnxe hse hIM hOn
      go_wp2
      go_ret
      exact ⟨_, rfl, hfin.out, hbr⟩

set_option maxRecDepth 100000 in
set_option maxHeartbeats 400000 in
theorem partOf {w : World} {v : Value} {ks : List Nat} (h : Ints w v (natI ks)) (h0 : 0 < ks.length) (hl : ks.length ≤ 1000) (hks : ∀ k ∈ ks, k ≤ 1000000) :
    Calls Tryz.prog 48 #[v] w fun e w' => ∃ u, e = .returned (.tuple #[u, .int .i64 0]) ∧ OI w' w.heap.size u ks.length (natI (lbl ks)) ∧ Below w.heap.size w w' := by
  have H := Lib.hid (labelsCall h h0 hl hks)
  obtain ⟨aa, ac, ab, off, rfl, ha, hc, _⟩ := h
  rw [natI_len] at H ⊢
  have hd : decide (65536 < (ks.length : Int)) = false := decide_eq_false (by omega)
  clear ha hc
  go_enter Tryz.func48, Tryz.ntmps48
  go_wp2_with fail
  refine H.out.mono ?_
  rintro e w1 ⟨u, rfl, h1, h2⟩
  go_wp2
  go_ret2
  exact ⟨_, rfl, h1, h2⟩
end Go.Proofs.YtfihpofdoffclaaGreatDoor

/- The search for new states: plain lists. -/
namespace Go.Proofs.YtfihpofdoffclaaGreatDoor
open Go.RowKit Go.ChangeMaps Go.MapKept

/-- The moves of state s: those that lead to a new key. -/
def exts (kf : Nat → Nat) (s : Nat) : List (List Int) → List Nat × List (Nat × List Int) → List Nat × List (Nat × List Int)
  | [], st => st
  | m :: r, st => exts kf s r (if kf (mvTo m) ∈ st.1.map kf then st else (st.1 ++ [mvTo m], st.2 ++ [(s, m)]))
def srch (kf : Nat → Nat) (ss : List (List (List Int))) : Nat → Nat → List Nat × List (Nat × List Int) → Option (List Nat × List (Nat × List Int))
  | 0, _, _ => none
  | f + 1, i, st => if i < st.1.length then srch kf ss f (i + 1) (exts kf (st.1.getD i 0) (ss.getD (st.1.getD i 0) []) st) else some st
theorem exts_in {kf : Nat → Nat} {s : Nat} {m : List Int} {r : List (List Int)} {o : List Nat} {fs : List (Nat × List Int)} (h : kf (mvTo m) ∈ o.map kf) : exts kf s (m :: r) (o, fs) = exts kf s r (o, fs) := by rw [exts, if_pos h]
theorem exts_out {kf : Nat → Nat} {s : Nat} {m : List Int} {r : List (List Int)} {o : List Nat} {fs : List (Nat × List Int)} (h : kf (mvTo m) ∉ o.map kf) : exts kf s (m :: r) (o, fs) = exts kf s r (o ++ [mvTo m], fs ++ [(s, m)]) := by rw [exts, if_neg h]
theorem exts_le (kf : Nat → Nat) (s : Nat) : ∀ (ms : List (List Int)) (st : List Nat × List (Nat × List Int)), st.1.length ≤ (exts kf s ms st).1.length
  | [], _ => Nat.le_refl _
  | m :: r, st => by
    rw [exts]
    refine Nat.le_trans ?_ (exts_le kf s r _)
    split
    · exact Nat.le_refl _
    · simp
theorem srch_le {kf : Nat → Nat} {ss : List (List (List Int))} : ∀ {f i : Nat} {st R : List Nat × List (Nat × List Int)}, srch kf ss f i st = some R → st.1.length ≤ R.1.length
  | 0, _, _, _, h => by cases h
  | f + 1, i, st, R, h => by
    rw [srch] at h
    split at h
    · exact Nat.le_trans (exts_le _ _ _ _) (srch_le h)
    · injection h with h; subst h; exact Nat.le_refl _
/-- The keys that were seen. -/
def SN (kf : Nat → Nat) (w : World) (b : Nat) (o : List Nat) : Prop := MX intV Value.bool w b (o.map fun x => (kf x, true))
theorem umSeen : Tryz.prog.underlying 150 = some (.map 3 4) := by kernel_rfl
theorem zBool : ∀ w, (zeroValue 4).run Tryz.prog w = .ok (.bool false) w := fun w => by kernel_rfl
set_option maxRecDepth 100000 in
theorem SN.look {kf : Nat → Nat} {w : World} {b : Nat} {o : List Nat} (h : SN kf w b o) (hs : ∀ y ∈ o, kf y ≤ 1000000) {x : Nat} (hx : x ≤ 1000000) :
    (Instr.lookup 150 (.map (some b)) (.int .i64 (x : Int)) false).run Tryz.prog w = .ok (.bool (decide (x ∈ o.map kf))) w := by
  have hm : ∀ p ∈ o.map (fun y => (kf y, true)), p.1 ≤ 1000000 := fun p hp => by
    obtain ⟨y, hy, rfl⟩ := List.mem_map.1 hp; exact hs y hy
  have hf : (o.map fun y => (kf y, true)).map Prod.fst = o.map kf := by simp
  rcases MX.look keyX_int umSeen (zBool w) h hm hx with ⟨h1, h2, _⟩ | ⟨v, h1, h2, _⟩
  · rw [hf] at h1
    rw [decide_eq_false h1]; exact h2
  · obtain ⟨y, hy, e⟩ := List.mem_map.1 h1
    injection e with e1 e2
    have : x ∈ o.map kf := by rw [← e1]; exact List.mem_map_of_mem hy
    rw [decide_eq_true this, e2]; exact h2
set_option maxRecDepth 100000 in
theorem SN.put {kf : Nat → Nat} {w : World} {b : Nat} {o : List Nat} (h : SN kf w b o) (hs : ∀ y ∈ o, kf y ≤ 1000000) {x : Nat} (hx : kf x ≤ 1000000) (hn : kf x ∉ o.map kf) :
    ∃ ob, (Instr.mapUpdate 150 (.map (some b)) (.int .i64 (kf x : Int)) (.bool true)).run Tryz.prog w = .ok () (setBlock w b ob) ∧ SN kf (setBlock w b ob) b (o ++ [x]) := by
  have hm : ∀ p ∈ o.map (fun y => (kf y, true)), p.1 ≤ 1000000 := fun p hp => by
    obtain ⟨y, hy, rfl⟩ := List.mem_map.1 hp; exact hs y hy
  have hf : (o.map fun y => (kf y, true)).map Prod.fst = o.map kf := by simp
  obtain ⟨ob, h1, h2⟩ := MX.put keyX_int umSeen h hm hx (by rw [hf]; exact hn) true
  refine ⟨ob, h1, ?_⟩
  unfold SN
  rw [List.map_append]; exact h2
end Go.Proofs.YtfihpofdoffclaaGreatDoor

/- The two functions that canonical hands to the search. -/
namespace Go.Proofs.YtfihpofdoffclaaGreatDoor
open Go.RowKit Go.ChangeMaps Go.MapKept

set_option maxRecDepth 100000 in
set_option maxHeartbeats 400000 in
theorem keyCanon {W : World} {bl : Nat} {v : Value} {L : List Nat} (hb : W.heap[bl]? = some (.cells #[v] 27)) (hL : Ints W v (natI L)) {i : Nat} (hi : i < L.length) :
    Calls Tryz.prog 85 #[.int .i64 (i : Int), .pointer (some ⟨bl, 0, none⟩)] W fun e W' => e = .returned (.int .i64 (L.getD i 0 : Nat)) ∧ W' = W := by
  obtain ⟨aa, ac, ab, off, rfl, ha, hc, hl⟩ := hL
  rw [natI_len] at ha hl hb
  have ha := ha (by omega)
  subst ha
  have hci := hc i (by rw [natI_len]; exact hi)
  rw [natI_getD] at hci
  have hcb := cell_of_one hb
  obtain ⟨q, hq⟩ : ∃ q, L.getD i 0 = q := ⟨_, rfl⟩
  rw [hq] at hci ⊢
  clear hc hq hb
  go_enter Tryz.func85, Tryz.ntmps85
  go_wp2
  go_ret
  exact ⟨rfl, rfl⟩

/-- What canonical asks of the map of numbers: block bM holds the keys that were met, in order. -/
def JC (kf : Nat → Nat) (bM : Nat) (fs : List (Nat × List Int)) (D : Nat → Prop) (W : World) : Prop :=
  (∀ k, D k ↔ k = bM) ∧ IM intV W bM ((0 :: fs.map fun f => mvTo f.2).map kf)
theorem JC.stable (kf : Nat → Nat) (bM : Nat) : Stable (JC kf bM) := by
  intro fs D W W' h hs hk
  exact ⟨h.1, h.2.keep (hk bM ((h.1 bM).2 rfl))⟩

set_option maxRecDepth 100000 in
set_option maxHeartbeats 800000 in
theorem foundCanon {W : World} {bl bn bM : Nat} {v : Value} {L : List Nat} {fs : List (Nat × List Int)} {D : Nat → Prop} (hJ : JC (fun i => L.getD i 0) bM fs D W)
    (hb : W.heap[bl]? = some (.cells #[v] 27)) (hL : Ints W v (natI L)) (hbn : W.heap[bn]? = some (.cells #[.map (some bM)] 127)) (hLb : ∀ x ∈ L, x ≤ 1000000)
    {s : Nat} {y0 y1 y2 y3 y4 y5 y6 : Int} {q : Nat} (hq : q < L.length) (hn : L.getD q 0 ∉ (0 :: fs.map fun f => mvTo f.2).map (fun i => L.getD i 0)) :
    Calls Tryz.prog 86 #[.int .i64 (s : Int), .agg #[.int .i64 y0, .int .i64 y1, .int .i64 y2, .int .i64 y3, .int .i64 y4, .int .i64 y5, .int .i64 y6, .int .i64 (q : Int)], .pointer (some ⟨bn, 0, none⟩), .pointer (some ⟨bl, 0, none⟩)] W fun e W' =>
      e = .returned (.tuple #[]) ∧ ∃ D', Only D W W' ∧ Gr D W D' ∧ Bd D' W' ∧ JC (fun i => L.getD i 0) bM (fs ++ [(s, [y0, y1, y2, y3, y4, y5, y6, (q : Int)])]) D' W' := by
  obtain ⟨hD, hIM⟩ := hJ
  have hmq : mvTo [y0, y1, y2, y3, y4, y5, y6, (q : Int)] = q := by show ((q : Int)).toNat = q; omega
  have hgb : ∀ j, L.getD j 0 ≤ 1000000 := fun j => by
    by_cases h : j < L.length
    · rw [getD_eq h]; exact hLb _ (List.getElem_mem h)
    · simp [List.getD_eq_getElem?_getD, List.getElem?_eq_none (by omega : L.length ≤ j)]
  have hks : ∀ y ∈ (0 :: fs.map fun f => mvTo f.2).map (fun i => L.getD i 0), y ≤ 1000000 := fun y hy => by
    obtain ⟨j, _, rfl⟩ := List.mem_map.1 hy; exact hgb j
  have hsz : bM < W.heap.size := hIM.lt
  obtain ⟨W1, hW1⟩ : ∃ W1, W1 = W.alloc (.cells #[.int .i64 y0, .int .i64 y1, .int .i64 y2, .int .i64 y3, .int .i64 y4, .int .i64 y5, .int .i64 y6, .int .i64 (q : Int)] 84) := ⟨_, rfl⟩
  have hb1 : Below W.heap.size W W1 := by rw [hW1]; exact (Below.refl _ _).alloc (Nat.le_refl _) _
  have m1 : W1.heap[W.heap.size]? = some (.cells #[.int .i64 y0, .int .i64 y1, .int .i64 y2, .int .i64 y3, .int .i64 y4, .int .i64 y5, .int .i64 y6, .int .i64 (q : Int)] 84) := by rw [hW1]; exact heap_alloc_new _ _
  have hIM1 := hIM.keep (hb1.block _ hsz)
  have hL1 := hL.keep hb1
  have hbn1 := cell_of_one ((hb1.block _ (Array.getElem?_eq_some_iff.1 hbn).1).trans hbn)
  have hbl1 := (hb1.block _ (Array.getElem?_eq_some_iff.1 hb).1).trans hb
  obtain ⟨aa, ac, ab, off, rfl, ha, hc, hl⟩ := hL1
  rw [natI_len] at ha hl hbl1
  have ha := ha (by omega)
  subst ha
  have hci := hc q (by rw [natI_len]; exact hq)
  rw [natI_getD] at hci
  have hbl2 := cell_of_one hbl1
  have hqb := hgb q
  have hmx : Tryz.prog.follows .mixedOrders = true := by kernel_rfl
  have hlen : ∀ (ty : TypeId) (k : Nat), (Builtin.len_ #[127] ty #[.map (some bM)]).run Tryz.prog (W1.drewN k) = .ok (.int .i64 ((fs.length + 1 : Nat) : Int)) (W1.drewN k) := fun ty k => by
    have h := IM.len (ty := ty) umInt (hIM1.keep (w' := W1.drewN k) rfl)
    rw [List.length_map, List.length_cons, List.length_map] at h
    exact h
  have hput : ∀ k, Hid (∃ o, (Instr.mapUpdate 127 (.map (some bM)) (.int .i64 (L.getD q 0 : Nat)) (.int .i64 ((fs.length + 1 : Nat) : Int))).run Tryz.prog (W1.drewN k) = .ok () (setBlock (W1.drewN k) bM o) ∧
      IM intV (setBlock (W1.drewN k) bM o) bM ((0 :: (fs ++ [(s, [y0, y1, y2, y3, y4, y5, y6, (q : Int)])]).map fun f => mvTo f.2).map (fun i => L.getD i 0)) ∧ Only D W (setBlock (W1.drewN k) bM o)) := fun k => by
    obtain ⟨o, hput, hIM2⟩ := IM.put keyX_int umInt (hIM1.keep (w' := W1.drewN k) rfl) hks hqb hn
    rw [List.length_map, List.length_cons, List.length_map] at hput
    refine ⟨o, hput, ?_, ((Only.of_below hb1).drewN k).setBlk ((hD bM).2 rfl) o⟩
    rw [List.map_append, ← List.cons_append, List.map_append, List.map_singleton, List.map_singleton, hmq]; exact hIM2
  obtain ⟨x, hx⟩ : ∃ x, L.getD q 0 = x := ⟨_, rfl⟩
  obtain ⟨N, hN⟩ : ∃ N, fs.length + 1 = N := ⟨_, rfl⟩
  rw [hx] at hci
  simp only [hx, hN] at hput hlen
  obtain ⟨p0, p1, p2, p3, p4, p5, p6, p7⟩ := box8 m1
  clear hc hx hIM hIM1 hn hks hLb hgb hL hb hbn hbl1 hb1 m1 hN
  go_enter Tryz.func86, Tryz.ntmps86
  go_wp2_with fail
  rw [← hW1]
  clear hW1
  refine wp_region_qtail 8 hmx (by kernel_rfl) (by kernel_rfl) ?_ ?_
  · rintro ⟨a, wx, h⟩
    first
      | exact h
      | (obtain ⟨h, _⟩ := h; cases h)
      | (obtain ⟨_, h, _⟩ := h; cases h)
      | (obtain ⟨_, _, h, _⟩ := h; cases h)
      | (unfold bodyPost at h; cases h)
  · intro ops'
    simp only [List.take_succ_cons, List.take_zero, List.drop_succ_cons, List.drop_zero]
    repeat (quiet_step (fail))
    refine wpQuiet_nil ?_
    intro k
    obtain ⟨o, hput, hfin, hOf⟩ := hput k
    replace hfin := Lib.hid hfin
    replace hOf := Lib.hid hOf
    obtain ⟨W2, hW2⟩ : ∃ W2, W2 = setBlock (W1.drewN k) bM o := ⟨_, rfl⟩
    rw [← hW2] at hput hfin hOf
    clear hW2
    go_wp2
    go_end0
    exact ⟨rfl, D, hOf.out, Gr.refl _ _, fun k hk => by rw [(hD k).1 hk]; exact hfin.out.lt, hD, hfin.out⟩
end Go.Proofs.YtfihpofdoffclaaGreatDoor

/- slices.Clone at the program's types; rows of structs of ints that a call made. -/
namespace Go.Proofs.YtfihpofdoffclaaGreatDoor
open Go.RowKit

/-- The cells of a struct of ints. -/
def EI (_ : World) (cs : List Value) (x : List Int) : Prop := cs = x.map (Value.int .i64)
theorem EI.stab (E : TypeId) : Stab E EI := fun _ _ _ _ h _ => h
theorem flat_get {k : Nat} : ∀ {xs : List (List Int)}, (∀ x ∈ xs, x.length = k) → ∀ {j : Nat} {x : List Int}, xs[j]? = some x → (xs.flatten.drop (j * k)).take k = x
  | [], _, j, x, h => by simp at h
  | a :: r, hl, 0, x, h => by
    simp only [List.getElem?_cons_zero, Option.some.injEq] at h
    subst h
    rw [Nat.zero_mul, List.drop_zero, List.flatten_cons, ← hl a (by simp), List.take_left]
  | a :: r, hl, j + 1, x, h => by
    rw [List.getElem?_cons_succ] at h
    rw [List.flatten_cons, Nat.succ_mul, Nat.add_comm, ← List.drop_drop]
    have : (a ++ r.flatten).drop k = r.flatten := by rw [← hl a (by simp), List.drop_left]
    rw [this]
    exact flat_get (fun y hy => hl y (by simp [hy])) h
theorem flat_len {k : Nat} : ∀ {xs : List (List Int)}, (∀ x ∈ xs, x.length = k) → xs.flatten.length = xs.length * k
  | [], _ => by simp
  | a :: r, hl => by
    rw [List.flatten_cons, List.length_append, hl a (by simp), flat_len (fun y hy => hl y (by simp [hy])), List.length_cons, Nat.succ_mul, Nat.add_comm]
theorem OwX.ofFlat {E : TypeId} {k : Nat} {w : World} {B n : Nat} {v : Value} {xs : List (List Int)} (h : w.ownsRow B E k v n (xs.flatten.map (Value.int .i64))) (hl : ∀ x ∈ xs, x.length = k) (hn : xs.length = n) : OwX E k EI w B v n xs := by
  refine ⟨_, h, hn, fun u hu => ?_, fun j x hj => ?_⟩
  · obtain ⟨i, _, rfl⟩ := List.mem_map.1 hu; rfl
  · show _ = _
    rw [← List.map_drop, ← List.map_take, flat_get hl hj]
theorem KS.flat {k : Nat} {w : World} {b off : Nat} {xs : List (List Int)} (h : CK k w b off xs) : ∀ j u, (xs.flatten.map (Value.int .i64))[j]? = some u → w.cell? ⟨b, off + j, none⟩ = some u := by
  have hl : ∀ x ∈ xs, x.length = k := fun x hx => by
    obtain ⟨i, hi, rfl⟩ := List.getElem_of_mem hx
    have := (h i hi).1
    rwa [getD_eq hi] at this
  intro j u hj
  obtain ⟨y, hy, rfl⟩ : ∃ y, xs.flatten[j]? = some y ∧ Value.int .i64 y = u := by
    rw [List.getElem?_map] at hj
    cases hx : xs.flatten[j]? with
    | none => rw [hx] at hj; cases hj
    | some y => rw [hx] at hj; simp only [Option.map_some, Option.some.injEq] at hj; exact ⟨y, rfl, hj⟩
  have hjl := (List.getElem?_eq_some_iff.1 hy).1
  rw [flat_len hl] at hjl
  have hk : 0 < k := by
    rcases Nat.eq_zero_or_pos k with rfl | h'
    · simp at hjl
    · exact h'
  have hq : j / k < xs.length := Nat.div_lt_of_lt_mul (by rw [Nat.mul_comm]; exact hjl)
  obtain ⟨x, hx⟩ : ∃ x, xs[j / k]? = some x := ⟨_, List.getElem?_eq_some_iff.2 ⟨hq, rfl⟩⟩
  have h1 := flat_get hl hx
  obtain ⟨h2, h3⟩ := h _ hq
  have hxd : xs.getD (j / k) [] = x := by rw [List.getD_eq_getElem?_getD, hx]; rfl
  rw [hxd] at h2 h3
  have hm : j % k < k := Nat.mod_lt _ hk
  have h4 := h3 (j % k) (by omega)
  have hdm : j / k * k + j % k = j := by rw [Nat.mul_comm]; exact Nat.div_add_mod j k
  have h5 : x.getD (j % k) 0 = y := by
    rw [← h1, List.getD_eq_getElem?_getD, List.getElem?_take, if_pos hm, List.getElem?_drop, hdm, hy]; rfl
  rw [h5, Nat.add_assoc, hdm] at h4
  exact h4
theorem KS.lens {k : Nat} {w : World} {b off : Nat} {xs : List (List Int)} (h : CK k w b off xs) : ∀ x ∈ xs, x.length = k := fun x hx => by
  obtain ⟨i, hi, rfl⟩ := List.getElem_of_mem hx
  have := (h i hi).1
  rwa [getD_eq hi] at this
theorem elemMv : ElemK Tryz.prog 82 84 (.agg #[.int .i64 0, .int .i64 0, .int .i64 0, .int .i64 0, .int .i64 0, .int .i64 0, .int .i64 0, .int .i64 0]) 8 64 := ⟨by kernel_rfl, by kernel_rfl, rfl⟩
theorem elemRd : ElemK Tryz.prog 45 79 (.agg #[.int .i64 0, .int .i64 0, .int .i64 0, .int .i64 0, .int .i64 0, .int .i64 0, .int .i64 0]) 7 56 := ⟨by kernel_rfl, by kernel_rfl, rfl⟩
theorem elemRs : ElemK Tryz.prog 56 45 (.slice none 0 0) 1 24 := ⟨by kernel_rfl, by kernel_rfl, rfl⟩

set_option maxRecDepth 100000 in
set_option maxHeartbeats 1600000 in
theorem cloneMv {w : World} (ad : Addr) (n c : Nat) (news : List Value) (hl : news.length = n * 8) (hn : n ≤ 1000000) (hc : ∀ j u, news[j]? = some u → w.cell? (ad.add j) = some u) (h1 : ∀ u ∈ news, u.oneCell' = true) :
    Calls Tryz.prog 87 #[.slice (some ad) n c] w fun e w' => ∃ v', e = .returned v' ∧ w'.ownsRow w.heap.size 84 8 v' n news ∧ Below w.heap.size w w' := by
  have q22 := fun (w : World) => Lib.run_eql_slice_nil (P := Tryz.prog) w 82 84 (some ad) n c 0 0 elemMv.1
  obtain ⟨i0, hi, hz0, hz1, hz2⟩ := info_parts elemMv.2.1
  have A : Hid (∀ j u, news[j]? = some u → w.cell? (ad.add j) = some u) := hc
  clear hc
  have hn' : n * 64 ≤ 140737488355328 := by omega
  go_enter Tryz.func87, Tryz.ntmps87
  go_wp2_with (at_builtin; refine wpList_append_own _ rfl _ _ 82 rfl w.heap.size 84 i0 _ 8 64 elemMv.1 hi hz0 hz1 hz2 elemMv.2.2 (by decide) _ _ _ rfl (World.ownsRow_made w #[] 0 (Nat.le_refl _) (Nat.zero_le _) (by simp)) ad n c news rfl ?qc1 ?qc2 ?qc3 ?qc4 ?qc5 ?qc6 ?_)
  case qc1 => exact hl
  case qc2 =>
    intro j u hj
    exact Lib.cell?_alloc_some _ (A.out j u hj)
  case qc3 => exact h1
  case qc4 => unfold maxLen; omega
  case qc5 => rw [Nat.zero_add]; exact hn'
  case qc6 => simp
  intro v' w1 hown hgrow hnil
  go_wp2
  go_ret
  refine ⟨v', rfl, by simpa using hown, ?_⟩
  exact ((Below.refl _ w).alloc (Nat.le_refl _) _).grown hgrow (by simp) (by intro k hk; simp [Value.ownBlock] at hk; omega)
set_option maxRecDepth 100000 in
set_option maxHeartbeats 400000 in
theorem cloneMvNil {w : World} (n c : Nat) : Calls Tryz.prog 87 #[.slice none n c] w fun e w' => e = .returned (.slice none 0 0) ∧ w' = w := by
  have q22 := fun (w : World) => Lib.run_eql_slice_nil (P := Tryz.prog) w 82 84 none n c 0 0 elemMv.1
  go_enter Tryz.func87, Tryz.ntmps87
  go_wp2
  go_ret
  exact ⟨rfl, rfl⟩
theorem cloneMvK {w : World} {v : Value} {xs : List (List Int)} (h : KS 8 w v xs) (hn : xs.length ≤ 1000000) :
    Calls Tryz.prog 87 #[v] w fun e w' => ∃ u, e = .returned u ∧ OwX 84 8 EI w' w.heap.size u xs.length xs ∧ Below w.heap.size w w' := by
  obtain ⟨a, c, b, off, rfl, ha, hc, _⟩ := h
  have hlens := KS.lens hc
  cases a with
  | none =>
    have h0 : xs.length = 0 := by
      rcases Nat.eq_zero_or_pos xs.length with h' | h'
      · exact h'
      · cases ha h'
    obtain rfl := List.length_eq_zero_iff.1 h0
    refine (cloneMvNil 0 c).mono ?_
    rintro e w' ⟨rfl, rfl⟩
    exact ⟨_, rfl, OwX.nil _ _, Below.refl _ _⟩
  | some ad =>
    refine (cloneMv ad xs.length c (xs.flatten.map (Value.int .i64)) (by rw [List.length_map, flat_len hlens]) hn ?_ ?_).mono ?_
    · intro j u hj
      have hpos : 0 < xs.length := by
        rcases Nat.eq_zero_or_pos xs.length with h' | h'
        · rw [List.length_eq_zero_iff.1 h'] at hj; simp at hj
        · exact h'
      have := ha hpos
      injection this with this
      subst this
      rw [Addr.add_lit]
      exact KS.flat hc j u hj
    · intro u hu
      obtain ⟨i, _, rfl⟩ := List.mem_map.1 hu; rfl
    · rintro e w' ⟨u, rfl, h1, h2⟩
      exact ⟨u, rfl, OwX.ofFlat h1 hlens rfl, h2⟩

set_option maxRecDepth 100000 in
set_option maxHeartbeats 1600000 in
theorem cloneRd {w : World} (ad : Addr) (n c : Nat) (news : List Value) (hl : news.length = n * 7) (hn : n ≤ 1000000) (hc : ∀ j u, news[j]? = some u → w.cell? (ad.add j) = some u) (h1 : ∀ u ∈ news, u.oneCell' = true) :
    Calls Tryz.prog 62 #[.slice (some ad) n c] w fun e w' => ∃ v', e = .returned v' ∧ w'.ownsRow w.heap.size 79 7 v' n news ∧ Below w.heap.size w w' := by
  have q22 := fun (w : World) => Lib.run_eql_slice_nil (P := Tryz.prog) w 45 79 (some ad) n c 0 0 elemRd.1
  obtain ⟨i0, hi, hz0, hz1, hz2⟩ := info_parts elemRd.2.1
  have A : Hid (∀ j u, news[j]? = some u → w.cell? (ad.add j) = some u) := hc
  clear hc
  have hn' : n * 56 ≤ 140737488355328 := by omega
  go_enter Tryz.func62, Tryz.ntmps62
  go_wp2_with (at_builtin; refine wpList_append_own _ rfl _ _ 45 rfl w.heap.size 79 i0 _ 7 56 elemRd.1 hi hz0 hz1 hz2 elemRd.2.2 (by decide) _ _ _ rfl (World.ownsRow_made w #[] 0 (Nat.le_refl _) (Nat.zero_le _) (by simp)) ad n c news rfl ?qc1 ?qc2 ?qc3 ?qc4 ?qc5 ?qc6 ?_)
  case qc1 => exact hl
  case qc2 =>
    intro j u hj
    exact Lib.cell?_alloc_some _ (A.out j u hj)
  case qc3 => exact h1
  case qc4 => unfold maxLen; omega
  case qc5 => rw [Nat.zero_add]; exact hn'
  case qc6 => simp
  intro v' w1 hown hgrow hnil
  go_wp2
  go_ret
  refine ⟨v', rfl, by simpa using hown, ?_⟩
  exact ((Below.refl _ w).alloc (Nat.le_refl _) _).grown hgrow (by simp) (by intro k hk; simp [Value.ownBlock] at hk; omega)
set_option maxRecDepth 100000 in
set_option maxHeartbeats 400000 in
theorem cloneRdNil {w : World} (n c : Nat) : Calls Tryz.prog 62 #[.slice none n c] w fun e w' => e = .returned (.slice none 0 0) ∧ w' = w := by
  have q22 := fun (w : World) => Lib.run_eql_slice_nil (P := Tryz.prog) w 45 79 none n c 0 0 elemRd.1
  go_enter Tryz.func62, Tryz.ntmps62
  go_wp2
  go_ret
  exact ⟨rfl, rfl⟩
theorem cloneRdK {w : World} {v : Value} {xs : List (List Int)} (h : KS 7 w v xs) (hn : xs.length ≤ 1000000) :
    Calls Tryz.prog 62 #[v] w fun e w' => ∃ u, e = .returned u ∧ OwX 79 7 EI w' w.heap.size u xs.length xs ∧ Below w.heap.size w w' := by
  obtain ⟨a, c, b, off, rfl, ha, hc, _⟩ := h
  have hlens := KS.lens hc
  cases a with
  | none =>
    have h0 : xs.length = 0 := by
      rcases Nat.eq_zero_or_pos xs.length with h' | h'
      · exact h'
      · cases ha h'
    obtain rfl := List.length_eq_zero_iff.1 h0
    refine (cloneRdNil 0 c).mono ?_
    rintro e w' ⟨rfl, rfl⟩
    exact ⟨_, rfl, OwX.nil _ _, Below.refl _ _⟩
  | some ad =>
    refine (cloneRd ad xs.length c (xs.flatten.map (Value.int .i64)) (by rw [List.length_map, flat_len hlens]) hn ?_ ?_).mono ?_
    · intro j u hj
      have hpos : 0 < xs.length := by
        rcases Nat.eq_zero_or_pos xs.length with h' | h'
        · rw [List.length_eq_zero_iff.1 h'] at hj; simp at hj
        · exact h'
      have := ha hpos
      injection this with this
      subst this
      rw [Addr.add_lit]
      exact KS.flat hc j u hj
    · intro u hu
      obtain ⟨i, _, rfl⟩ := List.mem_map.1 hu; rfl
    · rintro e w' ⟨u, rfl, h1, h2⟩
      exact ⟨u, rfl, OwX.ofFlat h1 hlens rfl, h2⟩

set_option maxRecDepth 100000 in
set_option maxHeartbeats 1600000 in
theorem cloneRs {w : World} (ad : Addr) (n c : Nat) (news : List Value) (hl : news.length = n * 1) (hn : n ≤ 1000000) (hc : ∀ j u, news[j]? = some u → w.cell? (ad.add j) = some u) (h1 : ∀ u ∈ news, u.oneCell' = true) :
    Calls Tryz.prog 30 #[.slice (some ad) n c] w fun e w' => ∃ v', e = .returned v' ∧ w'.ownsRow w.heap.size 45 1 v' n news ∧ Below w.heap.size w w' := by
  have q22 := fun (w : World) => Lib.run_eql_slice_nil (P := Tryz.prog) w 56 45 (some ad) n c 0 0 elemRs.1
  obtain ⟨i0, hi, hz0, hz1, hz2⟩ := info_parts elemRs.2.1
  have A : Hid (∀ j u, news[j]? = some u → w.cell? (ad.add j) = some u) := hc
  clear hc
  have hn' : n * 24 ≤ 140737488355328 := by omega
  go_enter Tryz.func30, Tryz.ntmps30
  go_wp2_with (at_builtin; refine wpList_append_own _ rfl _ _ 56 rfl w.heap.size 45 i0 _ 1 24 elemRs.1 hi hz0 hz1 hz2 elemRs.2.2 (by decide) _ _ _ rfl (World.ownsRow_made w #[] 0 (Nat.le_refl _) (Nat.zero_le _) (by simp)) ad n c news rfl ?qc1 ?qc2 ?qc3 ?qc4 ?qc5 ?qc6 ?_)
  case qc1 => exact hl
  case qc2 =>
    intro j u hj
    exact Lib.cell?_alloc_some _ (A.out j u hj)
  case qc3 => exact h1
  case qc4 => unfold maxLen; omega
  case qc5 => rw [Nat.zero_add]; exact hn'
  case qc6 => simp
  intro v' w1 hown hgrow hnil
  go_wp2
  go_ret
  refine ⟨v', rfl, by simpa using hown, ?_⟩
  exact ((Below.refl _ w).alloc (Nat.le_refl _) _).grown hgrow (by simp) (by intro k hk; simp [Value.ownBlock] at hk; omega)
end Go.Proofs.YtfihpofdoffclaaGreatDoor

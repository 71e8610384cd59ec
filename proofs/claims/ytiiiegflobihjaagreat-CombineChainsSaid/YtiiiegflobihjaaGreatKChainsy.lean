/- Texts of this claim, put together: DC EB. -/
import Derived.Test.YtiiiegflobihjaaGreatKChainsx
import Derived.Test.YtiiiegflobihjaaGreatKChainsr
import Derived.Test.YtiiiegflobihjaaGreatKChainsk
import Derived.Lib.OwnBridge
import Derived.Sort.OwnSortedInts
import Derived.Laws.BytesArg
import Derived.Test.YtiiiegflobihjaaGreatKChainsm

/- combine.text: a list of states, sorted, each once, as a text. -/
namespace Go.Proofs.YtiiiegflobihjaaGreat
open Go.RowKit Go.Sort

def sortL (xs : List Int) : List Int := xs.mergeSort fun x y => decide (x ≤ y)
theorem sortL_len (xs : List Int) : (sortL xs).length = xs.length := by simp [sortL, List.length_mergeSort]
theorem sortL_mem (xs : List Int) (x : Int) : x ∈ sortL xs ↔ x ∈ xs := by simp [sortL]
theorem sortL_asc (xs : List Int) : (sortL xs).Pairwise fun a b => a ≤ b := by
  have h := List.pairwise_mergeSort (le := fun x y : Int => decide (x ≤ y)) (fun a b c h1 h2 => by simp only [decide_eq_true_eq] at h1 h2 ⊢; omega) (fun a b => by simp only [Bool.or_eq_true, decide_eq_true_eq]; omega) xs
  exact List.Pairwise.imp (fun h => by simpa using h) h
theorem sortICall {w : World} {B n : Nat} {v : Value} {xs : List Int} (h : OI w B v n xs) (hn : 0 < n) (hn2 : n ≤ 1000) :
    Calls Tryz.prog 76 #[v] w fun e w' => e = .returned (.tuple #[]) ∧ OI w' B v n (sortL xs) ∧ Below B w w' ∧ w.grownBy w' v.ownBlock := by
  have hne : v ≠ .slice none 0 0 := by
    rintro rfl
    rcases h.2 with ⟨_, h0⟩ | ⟨g, cap, cur, h1, _⟩
    · omega
    · cases h1
  obtain ⟨g, cap, rfl, hB, hg, hnc, hcm, hl, hH⟩ := Lib.holds_of_ownsRow h hne
  have hc := AnyM.slices_Sort_int Tryz.sortI g 0 cap xs w hH hg (by omega)
  rw [hl] at hc
  refine hc.mono ?_
  rintro e w' ⟨rfl, q, os, rfl⟩
  have h1 := Lib.ownsRow_putRow (q := q) (k := n) (ys := sortL xs) h (by rw [sortL_len, hl]) (Nat.le_refl _)
  have ht : (sortL xs).take n = sortL xs := List.take_of_length_le (by rw [sortL_len]; omega)
  rw [ht] at h1
  have h2 : OI (grow (putRow (Value.int .i64) (Sort.ahead w q) g 0 (sortL xs).toArray) os) B (.slice (some ⟨g, 0, none⟩) n cap) n (sortL xs) := OI.keep h1 ⟨rfl, rfl, rfl, by simp [grow], fun k hk => Array.getElem?_append_left hk⟩
  have hgb := grownBy_sortedI (w := w) (g := g) (n := q) (os := os) (sortL xs).toArray
  refine ⟨rfl, h2, (Below.refl B w).grown hgb ?_ ?_, hgb⟩
  · omega
  · intro k hk; injection hk with hk; omega
theorem cmpL_one' (a b : Int) : cmpL [a] [b] < 0 ↔ a < b := by
  rw [cmpL_cons]
  simp [cmpL]
/-- The states of a list, in order, each once. -/
theorem cmpc_text {l : List Nat} (hl : ∀ x ∈ l, x < 256) : cmpc ((sortL (natI l)).map fun x => [x]) = (natI (thTx l)).map fun x => [x] := by
  refine asc_unique (cmpc_asc ?_) ?_ fun x => ?_
  · rw [List.pairwise_map]
    refine List.Pairwise.imp (fun {a b} h => ?_) (sortL_asc (natI l))
    rw [cmpL_one']; omega
  · rw [AscL, List.pairwise_map, natI, List.pairwise_map]
    refine List.Pairwise.imp (fun {a b} h => ?_) (thTx_asc l)
    rw [cmpL_one']; omega
  · rw [cmpc_mem, List.mem_map, List.mem_map]
    constructor
    · rintro ⟨a, ha, rfl⟩
      rw [sortL_mem, natI, List.mem_map] at ha
      obtain ⟨s, hs, rfl⟩ := ha
      exact ⟨_, List.mem_map_of_mem ((thTx_mem _ _).2 ⟨hl s hs, hs⟩), rfl⟩
    · rintro ⟨a, ha, rfl⟩
      rw [natI, List.mem_map] at ha
      obtain ⟨s, hs, rfl⟩ := ha
      exact ⟨_, (sortL_mem _ _).2 (List.mem_map_of_mem ((thTx_mem _ _).1 hs).2), rfl⟩
theorem OI.eiD {w : World} {B : Nat} {v : Value} {n : Nat} {xs : List Int} (h : OI w B v n xs) : OwX 3 1 EI w B v n (xs.map fun x => [x]) := by
  refine ⟨xs.map (Value.int .i64), h, by rw [List.length_map]; exact h.length, fun u hu => ?_, fun j x hj => ?_⟩
  · obtain ⟨x, _, rfl⟩ := List.mem_map.1 hu; rfl
  · rw [List.getElem?_map] at hj
    show _ = _
    have hlt : j < xs.length := by
      rcases Nat.lt_or_ge j xs.length with h | h
      · exact h
      · rw [List.getElem?_eq_none h] at hj; cases hj
    rw [List.getElem?_eq_getElem hlt] at hj
    simp only [Option.map_some, Option.some.injEq] at hj
    rw [Nat.mul_one, ← List.map_drop, ← List.map_take, List.drop_eq_getElem_cons hlt, ← hj]; rfl
/-- Bytes in rows. -/
def EBy (_ : World) (cs : List Value) (x : Nat) : Prop := cs = [.int .u8 (x : Int)]
theorem EBy.stab (E : TypeId) : Stab E EBy := fun _ _ _ _ h _ => h
theorem elemBy : ElemK Tryz.prog 121 5 (.int .u8 0) 1 1 := ⟨by kernel_rfl, by kernel_rfl, rfl⟩
theorem byCells {w : World} {B g n cap : Nat} {xs : List Nat} (h : OwX 5 1 EBy w B (.slice (some ⟨g, 0, none⟩) n cap) n xs) {j : Nat} {x : Nat} (hj : xs[j]? = some x) : w.cell? ⟨g, j, none⟩ = some (.int .u8 (x : Int)) := by
  obtain ⟨cs, _, h2, h3⟩ := h.cells hj
  have h2 : cs = _ := h2
  subst h2
  have := h3 0 _ rfl
  rwa [Nat.mul_one] at this
theorem strOf_natI (l : List Nat) : strOfNums (natI l) = bsN l := by
  unfold strOfNums bsN natI
  rw [List.map_map]; rfl
/-- string(bytes). -/
theorem run_bytes {w : World} {B n : Nat} {v : Value} {xs : List Nat} (h : OwX 5 1 EBy w B v n xs) (h0 : xs ≠ []) : (convert 121 9 v).run Tryz.prog w = .ok (.string (bsN xs)) w := by
  have hl := h.length
  obtain ⟨g, cap, rfl, _⟩ := h.form (by have := List.length_pos_iff.2 h0; omega)
  have hx := run_convert_bytes_arg (P := Tryz.prog) w 121 5 (by kernel_rfl) (by kernel_rfl) g 0 n cap (natI xs) (by rw [natI, List.length_map, hl]) (fun i hi => by
    rw [Nat.zero_add]
    have hi' : i < xs.length := by omega
    rw [byCells h (List.getElem?_eq_getElem hi'), natI, List.getD_eq_getElem?_getD, List.getElem?_map, List.getElem?_eq_getElem hi']; rfl) 9 (by kernel_rfl)
  rw [hx, strOf_natI]

set_option maxRecDepth 100000 in
set_option maxHeartbeats 1600000 in
theorem textC {w : World} {B : Nat} {v : Value} {l : List Nat} (h : OI w B v l.length (natI l)) (h0 : l ≠ []) (hn : l.length ≤ 1000) (hl : ∀ x ∈ l, x < 256) :
    Calls Tryz.prog 41 #[v] w fun e w' => e = .returned (.string (bsN (thTx l))) ∧ w.grownBy w' v.ownBlock ∧ Below B w w' := by
  have hpos : 0 < l.length := List.length_pos_iff.2 h0
  have hne : v ≠ .slice none 0 0 := by
    rintro rfl
    rcases h.2 with ⟨_, h0⟩ | ⟨g, cap, cur, h1, _⟩
    · omega
    · cases h1
  obtain ⟨g, cap, rfl, hB, hgl, _⟩ := Lib.holds_of_ownsRow h hne
  have HS := Lib.hid (sortICall h hpos hn)
  have hct := cmpc_text hl
  have hT0 : thTx l ≠ [] := by
    obtain ⟨s, hs⟩ := List.exists_mem_of_ne_nil _ h0
    exact List.ne_nil_of_mem ((thTx_mem _ _).2 ⟨hl s hs, hs⟩)
  have hT256 : ∀ x ∈ thTx l, x < 256 := fun x hx => ((thTx_mem _ _).1 hx).1
  have hTl : (thTx l).length ≤ 256 := by
    have := List.length_filter_le (fun s => decide (s ∈ l)) (List.range 256)
    rw [List.length_range] at this
    exact this
  obtain ⟨T, hT⟩ : ∃ T, thTx l = T := ⟨_, rfl⟩
  rw [hT] at hct hT0 hT256 hTl ⊢
  replace hT := Lib.hid hT
  replace hct := Lib.hid hct
  replace hT0 := Lib.hid hT0
  replace hT256 := Lib.hid hT256
  obtain ⟨N, hN⟩ : ∃ N, l.length = N := ⟨_, rfl⟩
  rw [hN] at HS hpos hn ⊢
  replace hN := Lib.hid hN
  have hh := Lib.hid h
  clear h hne hl h0
  go_enter Tryz.func41, Tryz.ntmps41
  go_wp2_with fail
  refine HS.out.mono ?_
  rintro e w1 ⟨rfl, ho1, hb1, hg1⟩
  have HC := Lib.hid (compactIntG ho1.eiD hn)
  rw [hct.out] at HC
  replace hg1 := Lib.hid hg1
  clear ho1
  go_wp2_with fail
  refine HC.out.mono ?_
  rintro e w2 ⟨m, rfl, hO2, hb2, hg2⟩
  have hml := hO2.length
  rw [natI, List.length_map, List.length_map] at hml
  subst hml
  have hb02 := hb1.trans hb2
  have hg02 := Lib.hid (World.grownBy.trans hg1.out hg2)
  have hcl := Lib.hid (fun W (hb : Below w2.heap.size w2 W) j (hj : j < T.length) => show W.cell? ⟨g, j, none⟩ = some (.int .i64 ((T.getD j 0 : Nat) : Int)) from by
    obtain ⟨h1, h2⟩ := hO2.intCells hj
    have h3 := cell_kept hb (h2 0 (by rw [h1]; decide))
    rw [Nat.mul_one, Nat.add_zero] at h3
    have h4 : ((natI T).map fun x => [x]).getD j [] = [((T.getD j 0 : Nat) : Int)] := by
      rw [getD_eq (by rw [List.length_map, natI, List.length_map]; exact hj), getD_eq hj]
      simp [natI]
    rw [h3, h4]; rfl)
  have ho0 : OwX 5 1 EBy w2 w2.heap.size (.slice none 0 0) 0 (T.take 0) := OwX.nil _ _
  clear hO2 hg2
  replace hb1 := Lib.hid hb1
  replace hb2 := Lib.hid hb2
  go_wp2_with fail
  go_loopw [3, 11] (fun ov jv wr => ∃ j : Nat, jv = .int .i64 j ∧ j ≤ T.length ∧ OwX 5 1 EBy wr w2.heap.size ov j (T.take j) ∧ Below w2.heap.size w2 wr) (fun _ jv _ => T.length - (intOf jv).toNat)
  case atStart => exact ⟨0, rfl, by omega, ho0, Below.refl _ _⟩
  case round =>
    clear ho0
    obtain ⟨j, rfl, hj, hO, hbr⟩ := hrel
    obtain ⟨oa, oc, hov⟩ := hO.shape
    subst hov
    by_cases hlt : j < T.length
    · have hji : (j : Int) < (T.length : Int) := by omega
      have c0 := hcl.out wr hbr j hlt
      have hsn := take_snoc hlt 0
      obtain ⟨s, hs⟩ : ∃ s, T.getD j 0 = s := ⟨_, rfl⟩
      have hs256 : s < 256 := by rw [← hs, getD_eq hlt]; exact hT256.out _ (List.getElem_mem hlt)
      rw [hs] at c0 hsn
      have hw8 : IntKind.u8.wrap (s : Int) = (s : Int) := IntWalk.u8_in _ (by omega)
      have hj9 : j ≤ 1000000000000 := by omega
      have hB1 : w2.heap.size ≤ wr.heap.size := hbr.size
      have hEB : EBy wr [.int .u8 (s : Int)] s := rfl
      have hc1 : ∀ u ∈ (#[.int .u8 (s : Int)] : Array Value).toList, u.oneCell' = true := fun u hu => by
        simp only [List.mem_cons, List.not_mem_nil, or_false] at hu
        rcases hu with rfl; rfl
      replace hEB := Lib.hid hEB
      replace hc1 := Lib.hid hc1
      replace hs := Lib.hid hs
      replace hsn := Lib.hid hsn
      go_wp2_with (at_builtin; refine wpAppX (x := s) elemBy (by decide) (by decide) (EBy.stab _) rfl _ _ rfl rfl hO rfl rfl rfl hc1.out hEB.out hj9 hB1 ?_)
      intro v3 w3 ho3 hg3 hb3 hx3
      rw [← hsn.out] at ho3
      have hbf := hbr.trans hb3
      go_wp2
      go_roundw
      case rel => exact ⟨j + 1, by go_num, hlt, ho3, hbf⟩
      case measure => simp [intOf]; omega
    · obtain rfl : j = T.length := by omega
      have hge : ¬ ((T.length : Int) < (T.length : Int)) := by omega
      rw [List.take_length] at hO
      have hbs := run_bytes hO hT0.out
      have hfin := Lib.hid (World.grownBy.trans hg02.out (GrG.below hbr))
      have hbe := hb02.trans (hbr.mono (by have := hb02.size; omega))
      clear hO
      go_wp2
      go_ret
      exact ⟨rfl, hfin.out, hbe⟩
end Go.Proofs.YtiiiegflobihjaaGreat

/- The reference: add (ints in ascending order, each once). -/
namespace Go.Proofs.YtiiiegflobihjaaGreat
open Go.RowKit

/-- How far a number goes down. -/
def addK (n : Nat) (l : List Nat) : Nat → Nat
  | 0 => 0
  | k + 1 => if n ≤ l.getD k 0 then addK n l k else k + 1
def addN (n : Nat) (l : List Nat) : List Nat := if l[addK n l l.length]? = some n then l else l.take (addK n l l.length) ++ [n] ++ l.drop (addK n l l.length)
theorem addK_le (n : Nat) (l : List Nat) : ∀ k, addK n l k ≤ k
  | 0 => Nat.le_refl _
  | k + 1 => by rw [addK]; split; exact Nat.le_succ_of_le (addK_le n l k); exact Nat.le_refl _
theorem addK_ge {n : Nat} {l : List Nat} : ∀ {k j : Nat}, addK n l k ≤ j → j < k → n ≤ l.getD j 0
  | 0, j, _, h => absurd h (by omega)
  | k + 1, j, h1, h2 => by
    rw [addK] at h1
    split at h1
    · rename_i h
      rcases Nat.lt_or_ge j k with h3 | h3
      · exact addK_ge h1 h3
      · obtain rfl : j = k := by omega
        exact h
    · omega
theorem addK_lt {n : Nat} {l : List Nat} : ∀ {k : Nat}, 0 < addK n l k → l.getD (addK n l k - 1) 0 < n
  | 0, h => absurd h (by simp [addK])
  | k + 1, h => by
    rw [addK] at h ⊢
    split
    · rename_i h1
      rw [if_pos h1] at h
      exact addK_lt h
    · rename_i h1
      have : k + 1 - 1 = k := by omega
      rw [this]; omega
theorem addN_ok {l : List Nat} (h : l.Pairwise (· < ·)) (n : Nat) : (addN n l).Pairwise (· < ·) ∧ ∀ x, x ∈ addN n l ↔ x = n ∨ x ∈ l := by
  have hle := addK_le n l l.length
  have hge : ∀ j, addK n l l.length ≤ j → j < l.length → n ≤ l.getD j 0 := fun j h1 h2 => addK_ge h1 h2
  have hlt : 0 < addK n l l.length → l.getD (addK n l l.length - 1) 0 < n := addK_lt
  unfold addN
  obtain ⟨K, hK⟩ : ∃ K, addK n l l.length = K := ⟨_, rfl⟩
  rw [hK] at hle hge hlt ⊢
  by_cases he : l[K]? = some n
  · rw [if_pos he]
    exact ⟨h, fun x => ⟨.inr, fun hx => hx.elim (fun e => e ▸ List.mem_of_getElem? he) id⟩⟩
  · rw [if_neg he]
    have hsplit := List.take_append_drop K l
    have hp := h
    rw [← hsplit, List.pairwise_append] at hp
    obtain ⟨p1, p2, p3⟩ := hp
    have hT : ∀ x ∈ l.take K, x < n := fun x hx => by
      obtain ⟨i, hi, rfl⟩ := List.getElem_of_mem hx
      rw [List.length_take] at hi
      have hl := hlt (by omega)
      rw [List.getD_eq_getElem?_getD, List.getElem?_eq_getElem (by omega), Option.getD_some] at hl
      rw [List.getElem_take]
      rcases Nat.lt_or_ge i (K - 1) with h1 | h1
      · have := List.pairwise_iff_getElem.1 h i (K - 1) (by omega) (by omega) h1
        omega
      · have e : i = K - 1 := by omega
        subst e; exact hl
    have hD : ∀ x ∈ l.drop K, n < x := fun x hx => by
      obtain ⟨i, hi, rfl⟩ := List.getElem_of_mem hx
      rw [List.length_drop] at hi
      rw [List.getElem_drop]
      have h1 := hge K (Nat.le_refl _) (by omega)
      rw [List.getD_eq_getElem?_getD, List.getElem?_eq_getElem (by omega), Option.getD_some] at h1
      have h2 : l[K] ≠ n := fun e => he (by rw [List.getElem?_eq_getElem (by omega), e])
      rcases Nat.eq_zero_or_pos i with h3 | h3
      · subst h3; simp only [Nat.add_zero]; omega
      · have := List.pairwise_iff_getElem.1 h K (K + i) (by omega) (by omega) (by omega)
        omega
    constructor
    · rw [List.append_assoc, List.pairwise_append]
      refine ⟨p1, ?_, fun a ha b hb => ?_⟩
      · rw [List.singleton_append, List.pairwise_cons]
        exact ⟨hD, p2⟩
      · rcases List.mem_append.1 hb with hb | hb
        · rw [List.mem_singleton.1 hb]; exact hT a ha
        · exact p3 a ha b hb
    · intro x
      conv => rhs; rw [← hsplit]
      simp only [List.mem_append, List.mem_singleton]
      constructor
      · rintro ((h | h) | h)
        · exact .inr (.inl h)
        · exact .inl h
        · exact .inr (.inr h)
      · rintro (h | h | h)
        · exact .inl (.inr h)
        · exact .inl (.inl h)
        · exact .inr h
def addF (xs : List Nat) : List Nat := xs.foldl (fun l n => addN n l) []
theorem addF_snoc (xs : List Nat) (n : Nat) : addF (xs ++ [n]) = addN n (addF xs) := by rw [addF, List.foldl_append]; rfl
theorem foldl_add : ∀ (xs l : List Nat), l.Pairwise (· < ·) → (xs.foldl (fun l n => addN n l) l).Pairwise (· < ·) ∧ ∀ x, x ∈ xs.foldl (fun l n => addN n l) l ↔ x ∈ l ∨ x ∈ xs
  | [], l, h => ⟨h, fun x => by simp⟩
  | a :: xs, l, h => by
    obtain ⟨h1, h2⟩ := addN_ok h a
    obtain ⟨h3, h4⟩ := foldl_add xs (addN a l) h1
    refine ⟨h3, fun x => ?_⟩
    rw [List.foldl_cons, h4, h2, List.mem_cons]
    constructor
    · rintro ((h | h) | h)
      · exact .inr (.inl h)
      · exact .inl h
      · exact .inr (.inr h)
    · rintro (h | h | h)
      · exact .inl (.inr h)
      · exact .inl (.inl h)
      · exact .inr h
theorem addF_asc (xs : List Nat) : (addF xs).Pairwise (· < ·) := (foldl_add xs [] List.Pairwise.nil).1
theorem addF_mem (xs : List Nat) (x : Nat) : x ∈ addF xs ↔ x ∈ xs := by rw [addF, (foldl_add xs [] List.Pairwise.nil).2]; simp
theorem addF_text {xs : List Nat} (h : ∀ x ∈ xs, x < 256) : addF xs = thTx xs := thTx_of (addF_asc xs) (addF_mem xs) h
theorem addN_len (n : Nat) (l : List Nat) : (addN n l).length ≤ l.length + 1 := by
  have h := addK_le n l l.length
  unfold addN
  split
  · omega
  · simp only [List.length_append, List.length_take, List.length_drop, List.length_cons, List.length_nil]; omega
/-- A row of ints as a row of lists of one. -/
def l1 (l : List Nat) : List (List Int) := (natI l).map fun x => [x]
theorem l1_len (l : List Nat) : (l1 l).length = l.length := by simp [l1, natI]
theorem l1_get {l : List Nat} {j : Nat} (h : j < l.length) : (l1 l).getD j [] = [((l.getD j 0 : Nat) : Int)] := by
  rw [getD_eq (by rw [l1_len]; exact h), getD_eq h]; simp [l1, natI]
theorem l1_take (l : List Nat) (k : Nat) : (l1 l).take k = l1 (l.take k) := by simp [l1, natI, List.map_take]
theorem l1_drop (l : List Nat) (k : Nat) : (l1 l).drop k = l1 (l.drop k) := by simp [l1, natI, List.map_drop]
theorem l1_app (a b : List Nat) : l1 (a ++ b) = l1 a ++ l1 b := by simp [l1, natI]
theorem OwX.ofL1 {w : World} {B : Nat} {v : Value} {n : Nat} {l : List Nat} (h : OwX 3 1 EI w B v n (l1 l)) : OI w B v n (natI l) := by
  have h1 := h.flatV
  have e : (l1 l).flatten = natI l := by
    unfold l1
    generalize natI l = xs
    induction xs with
    | nil => rfl
    | cons a r ih => simp [ih]
  rw [e] at h1; exact h1
theorem elemI1 : ElemK Tryz.prog 78 3 (.int .i64 0) 1 8 := elemInt1

set_option maxRecDepth 100000 in
set_option maxHeartbeats 3200000 in
theorem refAdd {w : World} {B : Nat} {v : Value} {l : List Nat} (hO0 : OI w B v l.length (natI l)) (hl : l.length ≤ 1000) (hB : B ≤ w.heap.size) (hlt : ∀ x ∈ l, x < 100000) (n : Nat) (hn : n < 100000) :
    Calls Tryz.prog 82 #[v, .int .i64 (n : Int)] w
      fun e w' => ∃ u, e = .returned u ∧ OI w' B u (addN n l).length (natI (addN n l)) ∧ Below w.heap.size w w' := by
  have hmx : Tryz.prog.follows .mixedOrders = true := by kernel_rfl
  obtain ⟨va, vc, hv⟩ := hO0.shape
  subst hv
  have hO : OwX 3 1 EI w B (.slice va l.length vc) l.length (l1 l) := hO0.eiD
  obtain ⟨K, hK⟩ : ∃ K, addK n l l.length = K := ⟨_, rfl⟩
  have hKl : K ≤ l.length := by rw [← hK]; exact addK_le _ _ _
  have hKge : ∀ j, K ≤ j → j < l.length → n ≤ l.getD j 0 := fun j h1 h2 => addK_ge (by rw [hK]; exact h1) h2
  have hres : addN n l = if l[K]? = some n then l else l.take K ++ [n] ++ l.drop K := by rw [addN, hK]
  have hK0 : Hid (addK n l l.length = K) := hK
  have hKS := Lib.hid (fun W (hb : Below w.heap.size w W) => And.intro (hO.keep (EI.stab _) hb) ((hO.ks (by omega)).keep hb))
  have hcl := Lib.hid (fun W (hb : Below w.heap.size w W) g cap (hg : Value.slice va l.length vc = .slice (some ⟨g, 0, none⟩) l.length cap) j (hj : j < l.length) => show W.cell? ⟨g, j, none⟩ = some (.int .i64 ((l.getD j 0 : Nat) : Int)) from by
    have hO' := hO
    rw [hg] at hO'
    obtain ⟨h1, h2⟩ := hO'.intCells (j := j) hj
    have h3 := cell_kept hb (h2 0 (by rw [h1]; decide))
    rw [Nat.mul_one, Nat.add_zero, l1_get hj] at h3
    rw [h3]; rfl)
  have hfm := Lib.hid (fun (h : 0 < l.length) => hO.form h)
  have hcap := OwX.cap hO
  have hzc : va = none → vc = 0 ∧ (l1 l).length = 0 := OwX.nilc hO
  obtain ⟨RR, hRR⟩ : ∃ R, addN n l = R := ⟨_, rfl⟩
  rw [hRR] at hres
  rw [hRR]
  replace hres := Lib.hid hres
  replace hRR := Lib.hid hRR
  replace hK := Lib.hid hK
  replace hKge := Lib.hid hKge
  replace hlt := Lib.hid hlt
  replace hO0 := Lib.hid hO0
  go_enter Tryz.func82, Tryz.ntmps82
  go_wp2_with fail
  go_loopg [5] l.length (fun f kv wr => ∃ k : Nat, kv = .int .i64 k ∧ k ≤ f ∧ k ≤ l.length ∧ Hid (addK n l k = K) ∧ Qt w wr)
  case atStart => exact ⟨l.length, rfl, Nat.le_refl _, Nat.le_refl _, hK0, Qt.refl _⟩
  case round =>
    clear hK0
    obtain ⟨k, rfl, hkf, hk, hKk, nd, rfl⟩ := hrel
    have hbr : Below w.heap.size w (w.drewN nd) := below_drewN (Below.refl _ w) nd
    by_cases hc : 0 < k ∧ n ≤ l.getD (k - 1) 0
    · obtain ⟨h0, hcz⟩ := hc
      obtain ⟨g, cap, hve, _⟩ := hfm.out (by omega)
      have c0 := hcl.out _ hbr g cap hve (k - 1) (by omega)
      obtain ⟨rfl, rfl⟩ : va = some ⟨g, 0, none⟩ ∧ vc = cap := by injection hve with h1 h2 h3; exact ⟨h1, h3⟩
      have hK2 : Hid (addK n l (k - 1) = K) := by
        have h := hKk.out
        rw [show k = (k - 1) + 1 by omega, addK, if_pos hcz] at h
        exact h
      obtain ⟨x, hx⟩ : ∃ x, l.getD (k - 1) 0 = x := ⟨_, rfl⟩
      rw [hx] at c0 hcz
      have hw1 : IntKind.i64.wrap ((k : Int) - 1) = (k : Int) - 1 := IntWalk.i64_in _ (by omega)
      have hi0 : 0 ≤ (k : Int) - 1 := by omega
      have hi1 : (k : Int) - 1 < (l.length : Int) := by omega
      have hin2 : ((k : Int) - 1).toNat = k - 1 := by omega
      have h0k : (0 : Int) < (k : Int) := by omega
      have hnx : (n : Int) ≤ (x : Int) := by omega
      replace hx := Lib.hid hx
      clear hve hcz
      go_wp2_with fail
      go_roundg (gk - 1)
      case measure => omega
      case rel => exact ⟨k - 1, by rw [show ((k - 1 : Nat) : Int) = (k : Int) - 1 by omega], by omega, by omega, hK2, by first | exact Qt.refl _ | exact Qt.mk' _ _ | exact Qt.mk2 _ _ _⟩
    · obtain rfl : K = k := by
        have h := hKk.out
        rcases Nat.eq_zero_or_pos k with h0 | h0
        · subst h0; exact h.symm
        · rw [show k = (k - 1) + 1 by omega, addK, if_neg (fun h => hc ⟨h0, h⟩)] at h
          omega
      have hRl : (l1 (l.take K)).length = K := by rw [l1_len, List.length_take]; omega
      have hDl : (l1 (l.drop K)).length = l.length - K := by rw [l1_len, List.length_drop]
      have hEI : ∀ W, EI W [.int .i64 (n : Int)] [(n : Int)] := fun W => rfl
      have hc1 : ∀ u ∈ (#[.int .i64 (n : Int)] : Array Value).toList, u.oneCell' = true := fun u hu => by
        simp only [List.mem_cons, List.not_mem_nil, or_false] at hu
        rcases hu with rfl; rfl
      have hKl4 := Lib.hid (fun W (hb : Below w.heap.size w W) => show KS 1 W (.slice va (l1 (l.take K)).length vc) (l1 (l.take K)) from by
        have h := (hKS.out W hb).2
        have h2 : KS 1 W (.slice va (l1 l).length vc) (l1 l) := by rw [l1_len]; exact h
        have h3 := h2.front K (by rw [l1_len]; exact hKl)
        rw [l1_take] at h3; exact h3)
      replace hEI := Lib.hid hEI
      replace hc1 := Lib.hid hc1
      replace hRl := Lib.hid hRl
      replace hDl := Lib.hid hDl
      have hKc : (K : Int) ≤ (vc : Int) := by omega
      have hKx : (K : Int) ≤ (l.length : Int) := by omega
      have hpre : Hid (0 < K → ∃ g cap x, Value.slice va l.length vc = .slice (some ⟨g, 0, none⟩) l.length cap ∧ (w.drewN nd).cell? ⟨g, K - 1, none⟩ = some (.int .i64 (x : Int)) ∧ x < (n : Int)) := fun h0 => by
        obtain ⟨g, cap, hve, _⟩ := hfm.out (by omega)
        refine ⟨g, cap, ((l.getD (K - 1) 0 : Nat) : Int), hve, hcl.out _ hbr g cap hve (K - 1) (by omega), ?_⟩
        have : ¬ n ≤ l.getD (K - 1) 0 := fun h => hc ⟨h0, h⟩
        omega
      clear hc hKk
      by_cases hlt2 : K < l.length
      · obtain ⟨g, cap, hve, _⟩ := hfm.out (by omega)
        have c0 := hcl.out _ hbr g cap hve K hlt2
        have hgK : l[K]? = some (l.getD K 0) := by rw [getD_eq hlt2]; exact List.getElem?_eq_getElem hlt2
        obtain ⟨rfl, rfl⟩ : va = some ⟨g, 0, none⟩ ∧ vc = cap := by injection hve with h1 h2 h3; exact ⟨h1, h3⟩
        obtain ⟨x, hx⟩ : ∃ x, l.getD K 0 = x := ⟨_, rfl⟩
        rw [hx] at c0 hgK
        have hltK : (K : Int) < (l.length : Int) := by omega
        replace hx := Lib.hid hx
        clear hve
        by_cases he : x = n
        · subst he
          obtain rfl : l = RR := by rw [hres.out, if_pos hgK]
          have hee : ((x : Int) == (x : Int)) = true := by simp
          have hfin := Lib.hid (hO0.out.keep hbr)
          clear hgK hres
          by_cases h0 : 0 < K
          case' pos =>
            obtain ⟨g', cap', y, hve, c1, hyn⟩ := hpre.out h0
            obtain ⟨rfl, rfl⟩ : g = g' ∧ vc = cap' := by injection hve with h1 h2 h3; injection h1 with h1; injection h1 with h1; exact ⟨h1, h3⟩
            have hw1 : IntKind.i64.wrap ((K : Int) - 1) = (K : Int) - 1 := IntWalk.i64_in _ (by omega)
            have hi0 : 0 ≤ (K : Int) - 1 := by omega
            have hi1 : (K : Int) - 1 < (l.length : Int) := by omega
            have hin2 : ((K : Int) - 1).toNat = K - 1 := by omega
            have h0k : (0 : Int) < (K : Int) := by omega
            clear hve hpre
          case' neg =>
            have h0k : (K : Int) ≤ 0 := by omega
            clear hpre
          all_goals
            go_wp2_with fail
            go_ret
            exact ⟨_, rfl, hfin.out, hbr⟩
        · have hxn : (x : Int) ≠ (n : Int) := by omega
          have hee : ((x : Int) == (n : Int)) = false := by simp [hxn]
          obtain rfl : RR = l.take K ++ [n] ++ l.drop K := by rw [hres.out, if_neg (by rw [hgK]; intro h; injection h with h; exact he h)]
          clear hgK hres hxn
          replace he := Lib.hid he
          by_cases h0 : 0 < K
          case' pos =>
            obtain ⟨g', cap', y, hve, c1, hyn⟩ := hpre.out h0
            obtain ⟨rfl, rfl⟩ : g = g' ∧ vc = cap' := by injection hve with h1 h2 h3; injection h1 with h1; injection h1 with h1; exact ⟨h1, h3⟩
            have hw1 : IntKind.i64.wrap ((K : Int) - 1) = (K : Int) - 1 := IntWalk.i64_in _ (by omega)
            have hi0 : 0 ≤ (K : Int) - 1 := by omega
            have hi1 : (K : Int) - 1 < (l.length : Int) := by omega
            have hin2 : ((K : Int) - 1).toNat = K - 1 := by omega
            have h0k : (0 : Int) < (K : Int) := by omega
            clear hve hpre
          case' neg =>
            have h0k : (K : Int) ≤ 0 := by omega
            clear hpre
          all_goals
            have hK4 := hKl4.out _ hbr
            have hB4 : w.heap.size ≤ (w.drewN nd).heap.size := hbr.size
            have hn9 : 0 + (l1 (l.take K)).length ≤ 1000000 := by rw [hRl.out]; omega
            have hO0' : OwX 3 1 EI (w.drewN nd) w.heap.size (.slice none 0 0) 0 [] := OwX.nil _ _
            go_wp2_with (at_builtin; refine wpList_appXs (ys := l1 (l.take K)) elemI1 (by decide) (by decide) rfl _ _ rfl rfl hO0' rfl hRl.out.symm hK4 (fun h => (hzc h).1) hn9 hB4 ?_)
            intro v5 w5 ho5 hg5 hb5 hx5
            have ho5 : OwX 3 1 EI w5 w.heap.size v5 K (l1 (l.take K)) := by simpa only [Nat.zero_add, List.nil_append, hRl.out] using ho5
            obtain ⟨a5, c5, hv5⟩ := ho5.shape
            subst hv5
            have hb25 := hbr.trans hb5
            have hB5 : w.heap.size ≤ w5.heap.size := hb25.size
            have hK9 : K ≤ 1000000000000 := by omega
            go_wp2_with (at_builtin; refine wpAppX (x := [(n : Int)]) elemI1 (by decide) (by decide) (EI.stab _) rfl _ _ rfl rfl ho5 rfl rfl rfl hc1.out (hEI.out _) hK9 hB5 ?_)
            intro v6 w6 ho6 hg6 hb6 hx6
            obtain ⟨a6, c6, hv6⟩ := ho6.shape
            subst hv6
            have hb26 := hb25.trans hb6
            have hB6 : w.heap.size ≤ w6.heap.size := hb26.size
            have hn10 : K + 1 + (l1 (l.drop K)).length ≤ 1000000 := by rw [hDl.out]; omega
            have hlen : Hid (K + 1 + (l1 (l.drop K)).length = (l.take K ++ [n] ++ l.drop K).length) := by
              show _ = _
              rw [List.length_append, List.length_append, hDl.out, List.length_drop, List.length_take]
              simp only [List.length_cons, List.length_nil]
              omega
            clear ho5
            have hKS6 := OwX.rest (hKS.out w6 hb26).1 (by omega) (m := K) (by omega)
            rw [l1_drop] at hKS6
            have hne : ¬ vc = K := by omega
            rw [if_neg hne] at hKS6
            try simp only [Option.map_some, Addr.add_lit, Nat.zero_add, Nat.mul_one] at hKS6
            have hks6 := Lib.hid hKS6
            clear hKS6
            go_wp2_with (at_builtin; refine wpList_appXs (ys := l1 (l.drop K)) elemI1 (by decide) (by decide) rfl _ _ rfl rfl ho6 rfl hDl.out.symm hks6.out.1 hks6.out.2 hn10 hB6 ?_)
            intro v7 w7 ho7 hg7 hb7 hx7
            have ho7 : OwX 3 1 EI w7 w.heap.size v7 (K + 1 + (l1 (l.drop K)).length) (l1 (l.take K ++ [n] ++ l.drop K)) := by
              rw [l1_app, l1_app, List.append_assoc]; exact ho7
            have hfin : OI w7 B v7 (l.take K ++ [n] ++ l.drop K).length (natI (l.take K ++ [n] ++ l.drop K)) := by
              rw [hlen.out] at ho7
              exact (ho7.ofL1).base hB
            have hbe := hb26.trans hb7
            replace hfin := Lib.hid hfin
            clear ho7 ho6
            go_wp2
            go_ret
            exact ⟨_, rfl, hfin.out, hbe⟩
      · have hKe : K = l.length := by omega
        obtain rfl : RR = l.take K ++ [n] ++ l.drop K := by rw [hres.out, if_neg (by rw [List.getElem?_eq_none (by omega)]; intro h; cases h)]
        have hKn : (l.length : Int) ≤ (K : Int) := by omega
        have hd0 : Hid (l.drop K = []) := List.drop_eq_nil_of_le (by omega)
        replace hKe := Lib.hid hKe
        clear hlt2 hres
        by_cases h0 : 0 < K
        case' pos =>
          obtain ⟨g', cap', y, hve, c1, hyn⟩ := hpre.out h0
          obtain ⟨rfl, rfl⟩ : va = some ⟨g', 0, none⟩ ∧ vc = cap' := by injection hve with h1 h2 h3; exact ⟨h1, h3⟩
          have hw1 : IntKind.i64.wrap ((K : Int) - 1) = (K : Int) - 1 := IntWalk.i64_in _ (by omega)
          have hi0 : 0 ≤ (K : Int) - 1 := by omega
          have hi1 : (K : Int) - 1 < (l.length : Int) := by omega
          have hin2 : ((K : Int) - 1).toNat = K - 1 := by omega
          have h0k : (0 : Int) < (K : Int) := by omega
          clear hve hpre
        case' neg =>
          have h0k : (K : Int) ≤ 0 := by omega
          clear hpre
        all_goals
          have hK4 := hKl4.out _ hbr
          have hB4 : w.heap.size ≤ (w.drewN nd).heap.size := hbr.size
          have hn9 : 0 + (l1 (l.take K)).length ≤ 1000000 := by rw [hRl.out]; omega
          have hO0' : OwX 3 1 EI (w.drewN nd) w.heap.size (.slice none 0 0) 0 [] := OwX.nil _ _
          go_wp2_with (at_builtin; refine wpList_appXs (ys := l1 (l.take K)) elemI1 (by decide) (by decide) rfl _ _ rfl rfl hO0' rfl hRl.out.symm hK4 (fun h => (hzc h).1) hn9 hB4 ?_)
          intro v5 w5 ho5 hg5 hb5 hx5
          have ho5 : OwX 3 1 EI w5 w.heap.size v5 K (l1 (l.take K)) := by simpa only [Nat.zero_add, List.nil_append, hRl.out] using ho5
          obtain ⟨a5, c5, hv5⟩ := ho5.shape
          subst hv5
          have hb25 := hbr.trans hb5
          have hB5 : w.heap.size ≤ w5.heap.size := hb25.size
          have hK9 : K ≤ 1000000000000 := by omega
          go_wp2_with (at_builtin; refine wpAppX (x := [(n : Int)]) elemI1 (by decide) (by decide) (EI.stab _) rfl _ _ rfl rfl ho5 rfl rfl rfl hc1.out (hEI.out _) hK9 hB5 ?_)
          intro v6 w6 ho6 hg6 hb6 hx6
          obtain ⟨a6, c6, hv6⟩ := ho6.shape
          subst hv6
          have hb26 := hb25.trans hb6
          have hB6 : w.heap.size ≤ w6.heap.size := hb26.size
          have hn10 : K + 1 + (l1 (l.drop K)).length ≤ 1000000 := by rw [hDl.out]; omega
          have hlen : Hid (K + 1 + (l1 (l.drop K)).length = (l.take K ++ [n] ++ l.drop K).length) := by
            show _ = _
            rw [List.length_append, List.length_append, hDl.out, List.length_drop, List.length_take]
            simp only [List.length_cons, List.length_nil]
            omega
          clear ho5
          have hKS6 := OwX.rest (hKS.out w6 hb26).1 (by omega) (m := K) (by omega)
          rw [l1_drop] at hKS6
          rcases Nat.lt_or_ge K vc with hcv | hcv
          case' inl =>
            have hne : ¬ vc = K := by omega
            rw [if_neg hne] at hKS6
            try simp only [Option.map_some, Addr.add_lit, Nat.zero_add, Nat.mul_one] at hKS6
            have hks6 := Lib.hid hKS6
            clear hKS6
            go_wp2_with (at_builtin; refine wpList_appXs (ys := l1 (l.drop K)) elemI1 (by decide) (by decide) rfl _ _ rfl rfl ho6 rfl hDl.out.symm hks6.out.1 hks6.out.2 hn10 hB6 ?_)
            intro v7 w7 ho7 hg7 hb7 hx7
            have ho7 : OwX 3 1 EI w7 w.heap.size v7 (K + 1 + (l1 (l.drop K)).length) (l1 (l.take K ++ [n] ++ l.drop K)) := by
              rw [l1_app, l1_app, List.append_assoc]; exact ho7
          case' inr =>
            clear hKS6 hn10
            have hn10 : K + 1 + ([] : List (List Int)).length ≤ 1000000 := by simp only [List.length_nil]; omega
            have hne : K = vc := by omega
            subst hne
            go_wp2_with (at_builtin; refine wpList_appXs (ys := []) elemI1 (by decide) (by decide) rfl _ _ rfl rfl ho6 rfl rfl (KS.nil _ _ _ _) (fun _ => rfl) hn10 hB6 ?_)
            intro v7 w7 ho7 hg7 hb7 hx7
            have ho7 : OwX 3 1 EI w7 w.heap.size v7 (K + 1 + (l1 (l.drop K)).length) (l1 (l.take K ++ [n] ++ l.drop K)) := by
              rw [l1_app, l1_app, List.append_assoc, hd0.out]; exact ho7
          all_goals
            have hfin : OI w7 B v7 (l.take K ++ [n] ++ l.drop K).length (natI (l.take K ++ [n] ++ l.drop K)) := by
              rw [hlen.out] at ho7
              exact (ho7.ofL1).base hB
            have hbe := hb26.trans hb7
            replace hfin := Lib.hid hfin
            clear ho7 ho6
            go_wp2
            go_ret
            exact ⟨_, rfl, hfin.out, hbe⟩
end Go.Proofs.YtiiiegflobihjaaGreat

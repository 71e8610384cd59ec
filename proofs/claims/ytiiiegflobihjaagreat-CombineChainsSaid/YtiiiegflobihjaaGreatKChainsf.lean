/- Texts of this claim, put together: A6 CA A7. -/
import Derived.Test.YtiiiegflobihjaaGreatKChainse
import Derived.StillTailTactics
import Derived.Test.YtiiiegflobihjaaGreatKChainsb
import Derived.IntWalk

/- Adversaries: Moves, Few, move of the reference. -/
namespace Go.Proofs.YtiiiegflobihjaaGreat
open Go.RowKit

def movesN (ss : List (List (List Int))) : Nat := (ss.map List.length).foldr (· + ·) 0
def mvPre (ss : List (List (List Int))) (k : Nat) : Nat := movesN (ss.take k)
theorem movesN_app (a b : List (List (List Int))) : movesN (a ++ b) = movesN a + movesN b := by
  unfold movesN
  induction a with
  | nil => simp
  | cons x a ih => simp only [List.cons_append, List.map_cons, List.foldr_cons, ih]; omega
theorem mvPre_succ {ss : List (List (List Int))} {k : Nat} (h : k < ss.length) : mvPre ss (k + 1) = mvPre ss k + (ss.getD k []).length := by
  rw [mvPre, take_snoc h [], movesN_app]; simp [mvPre, movesN]
theorem mvPre_le (ss : List (List (List Int))) (k : Nat) : mvPre ss k ≤ movesN ss := by
  have := movesN_app (ss.take k) (ss.drop k)
  rw [List.take_append_drop] at this
  rw [mvPre]; omega
theorem mvPre_all (ss : List (List (List Int))) : mvPre ss ss.length = movesN ss := by rw [mvPre, List.take_length]
theorem movesN_big : ∀ (ss : List (List (List Int))) (B : Nat), (∀ s ∈ ss, s.length ≤ B) → movesN ss ≤ ss.length * B
  | [], B, _ => by simp [movesN]
  | s :: ss, B, h => by
    have h1 := h s (by simp)
    have h2 := movesN_big ss B fun s hs => h s (by simp [hs])
    have e : movesN (s :: ss) = s.length + movesN ss := rfl
    rw [e, List.length_cons, Nat.add_mul]; omega
/-- An adversary as a value. -/
def AdvV (w : World) (v : Value) (n : Int) (ss : List (List (List Int))) : Prop := ∃ sv, v = .agg #[.int .i64 n, sv] ∧ KSS 8 w sv ss
theorem AdvV.keep {w w' : World} {v : Value} {n : Int} {ss : List (List (List Int))} (h : AdvV w v n ss) (hb : Below w.heap.size w w') : AdvV w' v n ss := by
  obtain ⟨sv, h1, h2⟩ := h; exact ⟨sv, h1, h2.keep hb⟩

set_option maxRecDepth 100000 in
set_option maxHeartbeats 1600000 in
theorem refMoves {w : World} {v : Value} {n : Int} {ss : List (List (List Int))} (h : AdvV w v n ss) (hl : ss.length ≤ 256) : Calls Tryz.prog 27 #[v] w fun e w' => e = .returned (.int .i64 (movesN ss)) ∧ Below w.heap.size w w' := by
  obtain ⟨sv, rfl, a, c, b, off, rfl, ha, hc, _⟩ := h
  have hb := (Below.refl w.heap.size w).alloc (Nat.le_refl _) (.cells #[.int .i64 n, .slice a ss.length c] 24)
  have hcb := hc.keep hb
  have hB : ∀ s ∈ ss, s.length ≤ 2199023255552 := fun s hs => by
    obtain ⟨j, hj, rfl⟩ := List.mem_iff_getElem.1 hs
    obtain ⟨u, _, _, _, _, _, _, _, _, hl⟩ := hc j hj
    rwa [getD_eq hj] at hl
  have hM := movesN_big ss _ hB
  have hM2 : ss.length * 2199023255552 ≤ 256 * 2199023255552 := Nat.mul_le_mul_right _ hl
  have hP := mvPre_le ss
  have hA := Lib.hid (mvPre_all ss)
  clear hB hc
  go_enter Tryz.func27, Tryz.ntmps27
  go_wp2
  go_loop [3, 4] (fun nv iv => ∃ k : Nat, k ≤ ss.length ∧ iv = .int .i64 k ∧ nv = .int .i64 (mvPre ss k)) (fun _ iv => ss.length - (intOf iv).toNat)
  case atStart => exact ⟨0, by omega, rfl, rfl⟩
  case round =>
    obtain ⟨k, hk, rfl, rfl⟩ := hrel
    have p1 := hP k
    by_cases hlt : k < ss.length
    · obtain rfl := ha (by omega)
      obtain ⟨u, hcu, hu⟩ := hcb k hlt
      obtain ⟨ua, uc, rfl⟩ := hu.shape
      have hs := mvPre_succ hlt
      have p2 := hP (k + 1)
      obtain ⟨p, hp⟩ : ∃ p, mvPre ss k = p := ⟨_, rfl⟩
      obtain ⟨m, hm⟩ : ∃ m, (ss.getD k []).length = m := ⟨_, rfl⟩
      rw [hp] at p1 hs
      rw [hm] at hs hcu
      rw [hs] at p2
      rw [hp]
      replace hs := Lib.hid hs
      clear hp hm hP ha hcb hu
      go_wp2
      go_round
      case rel => exact ⟨k + 1, by omega, by go_num, by rw [hs.out]; go_num⟩
      case measure => simp [intOf]; omega
    · obtain rfl : k = ss.length := by omega
      clear ha hcb hP
      go_wp2
      go_ret
      exact ⟨ret_int (by rw [hA.out]), hb⟩
end Go.Proofs.YtiiiegflobihjaaGreat

/- Exploring a graph of nodes, in the order in which they are met: plain lists. -/
namespace Go.Proofs.YtiiiegflobihjaaGreat

section
variable {N : Type} [DecidableEq N]
/-- The nodes behind the arrows of one node. -/
def exN (nodes : List N) (az : List (List Int × N)) : List N := dd nodes (az.map Prod.snd)
/-- Its moves. -/
def exL (nodes : List N) (az : List (List Int × N)) : List (List Int) := az.map fun a => a.1 ++ [(ixOf (exN nodes az) a.2 : Int)]
def exG (step : N → List (List Int × N)) : Nat → Nat → List N → List (List (List Int)) → Option (Option (List (List (List Int))))
  | 0, _, _, _ => none
  | f + 1, i, nodes, out =>
    match nodes[i]? with
    | none => some (some out)
    | some x => if 256 < (exN nodes (step x)).length ∨ 4096 < movesN (out ++ [exL nodes (step x)]) then some none
        else exG step f (i + 1) (exN nodes (step x)) (out ++ [exL nodes (step x)])
variable {step step' : N → List (List Int × N)} {f i k : Nat} {nodes : List N} {out : List (List (List Int))} {x : N} {az : List (List Int × N)}
theorem exG_end (h : ¬ i < nodes.length) : exG step (f + 1) i nodes out = some (some out) := by
  rw [exG, List.getElem?_eq_none (by omega)]
theorem exG_big (h : nodes[i]? = some x) (hb : 256 < (exN nodes (step x)).length ∨ 4096 < movesN (out ++ [exL nodes (step x)])) : exG step (f + 1) i nodes out = some none := by
  rw [exG, h]; simp only; rw [if_pos hb]
theorem exG_step (h : nodes[i]? = some x) (hb : ¬ (256 < (exN nodes (step x)).length ∨ 4096 < movesN (out ++ [exL nodes (step x)]))) :
    exG step (f + 1) i nodes out = exG step f (i + 1) (exN nodes (step x)) (out ++ [exL nodes (step x)]) := by
  rw [exG, h]; simp only; rw [if_neg hb]
theorem exG_some (step : N → List (List Int × N)) : ∀ (f i : Nat) (nodes : List N) (out : List (List (List Int))), nodes.length ≤ 256 → 257 ≤ f + i → 0 < f → ∃ R, exG step f i nodes out = some R
  | 0, _, _, _, _, _, h => absurd h (by omega)
  | f + 1, i, nodes, out, h1, h2, _ => by
    by_cases hi : i < nodes.length
    · have hx := List.getElem?_eq_getElem hi
      by_cases hb : 256 < (exN nodes (step nodes[i])).length ∨ 4096 < movesN (out ++ [exL nodes (step nodes[i])])
      · exact ⟨_, exG_big hx hb⟩
      · rw [exG_step hx hb]
        exact exG_some step f (i + 1) _ _ (by omega) (by omega) (by omega)
    · exact ⟨_, exG_end hi⟩
theorem exN_mem (h : x ∈ exN nodes az) : x ∈ nodes ∨ ∃ a ∈ az, a.2 = x := by
  rcases mem_dd h with h | h
  · exact .inl h
  · obtain ⟨a, ha, rfl⟩ := List.mem_map.1 h; exact .inr ⟨a, ha, rfl⟩
/-- The inner loop: one arrow more. -/
theorem exN_in (h : k < az.length) (hx : az[k].2 ∈ exN nodes (az.take k)) : exN nodes (az.take (k + 1)) = exN nodes (az.take k) := by
  rw [exN, List.take_succ_eq_append_getElem h, List.map_append, List.map_singleton, dd_snoc]; exact if_pos hx
theorem exN_out (h : k < az.length) (hx : az[k].2 ∉ exN nodes (az.take k)) : exN nodes (az.take (k + 1)) = exN nodes (az.take k) ++ [az[k].2] := by
  rw [exN, List.take_succ_eq_append_getElem h, List.map_append, List.map_singleton, dd_snoc]; exact if_neg hx
theorem exN_ix (hx : x ∈ exN nodes (az.take k)) : ixOf (exN nodes az) x = ixOf (exN nodes (az.take k)) x := by
  have h1 : exN nodes az = dd (exN nodes (az.take k)) ((az.drop k).map Prod.snd) := by
    conv => lhs; rw [exN, ← List.take_append_drop k az, List.map_append, dd_app]
    rfl
  rw [h1, dd_idx hx]
theorem exL_length : (exL nodes az).length = az.length := by rw [exL, List.length_map]
theorem exL_in (h : k < az.length) (hx : az[k].2 ∈ exN nodes (az.take k)) : (exL nodes az).take (k + 1) = (exL nodes az).take k ++ [az[k].1 ++ [(ixOf (exN nodes (az.take k)) az[k].2 : Int)]] := by
  rw [List.take_succ_eq_append_getElem (by rw [exL_length]; exact h), ← exN_ix hx]
  simp [exL]
theorem exL_out (h : k < az.length) (hx : az[k].2 ∉ exN nodes (az.take k)) : (exL nodes az).take (k + 1) = (exL nodes az).take k ++ [az[k].1 ++ [((exN nodes (az.take k)).length : Int)]] := by
  rw [List.take_succ_eq_append_getElem (by rw [exL_length]; exact h)]
  have h1 : az[k].2 ∈ exN nodes (az.take (k + 1)) := by rw [exN_out h hx]; simp
  have h2 : ixOf (exN nodes az) az[k].2 = (exN nodes (az.take k)).length := by
    rw [exN_ix h1, exN_out h hx, ixOf, List.idxOf_append, if_neg hx]; simp
  rw [← h2]
  simp [exL]
theorem exN_in' {a : List Int × N} (h : az[k]? = some a) (hx : a.2 ∈ exN nodes (az.take k)) : exN nodes (az.take (k + 1)) = exN nodes (az.take k) := by
  obtain ⟨hk, rfl⟩ := List.getElem?_eq_some_iff.1 h; exact exN_in hk hx
theorem exN_out' {a : List Int × N} (h : az[k]? = some a) (hx : a.2 ∉ exN nodes (az.take k)) : exN nodes (az.take (k + 1)) = exN nodes (az.take k) ++ [a.2] := by
  obtain ⟨hk, rfl⟩ := List.getElem?_eq_some_iff.1 h; exact exN_out hk hx
theorem exL_in' {a : List Int × N} (h : az[k]? = some a) (hx : a.2 ∈ exN nodes (az.take k)) : (exL nodes az).take (k + 1) = (exL nodes az).take k ++ [a.1 ++ [(ixOf (exN nodes (az.take k)) a.2 : Int)]] := by
  obtain ⟨hk, rfl⟩ := List.getElem?_eq_some_iff.1 h; exact exL_in hk hx
theorem exL_out' {a : List Int × N} (h : az[k]? = some a) (hx : a.2 ∉ exN nodes (az.take k)) : (exL nodes az).take (k + 1) = (exL nodes az).take k ++ [a.1 ++ [((exN nodes (az.take k)).length : Int)]] := by
  obtain ⟨hk, rfl⟩ := List.getElem?_eq_some_iff.1 h; exact exL_out hk hx
theorem movesN_snoc (out : List (List (List Int))) (l : List (List Int)) : movesN (out ++ [l]) = movesN out + l.length := by
  rw [movesN, movesN, List.map_append, List.foldr_append]
  simp only [List.map_cons, List.map_nil, List.foldr_cons, List.foldr_nil, Nat.add_zero]
  induction out with
  | nil => simp
  | cons a out ih => simp only [List.map_cons, List.foldr_cons, ih]; omega
theorem exN_nodup (h : nodes.Nodup) : (exN nodes az).Nodup := dd_nodup h
theorem exN_len : (exN nodes az).length ≤ nodes.length + az.length := by
  have := dd_le (az.map Prod.snd) nodes
  rwa [List.length_map] at this
theorem exN_ge : nodes.length ≤ (exN nodes az).length := by
  obtain ⟨t, ht⟩ := dd_pre (az.map Prod.snd) nodes
  rw [exN, ht, List.length_append]; omega
/-- Each target is the number of a node. -/
theorem exL_to {m : List Int} (h7 : ∀ a ∈ az, a.1.length = 7) (h : m ∈ exL nodes az) : m.length = 8 ∧ mvTo m < (exN nodes az).length ∧ 0 ≤ m.getD 7 0 ∧ ∃ a ∈ az, rdOf m = a.1 ∧ (exN nodes az)[mvTo m]? = some a.2 := by
  obtain ⟨a, ha, rfl⟩ := List.mem_map.1 h
  have h1 := h7 a ha
  have hg : (a.1 ++ [(ixOf (exN nodes az) a.2 : Int)]).getD 7 0 = (ixOf (exN nodes az) a.2 : Int) := by
    rw [List.getD_eq_getElem?_getD, List.getElem?_append_right (by omega), h1]; rfl
  have hm : mvTo (a.1 ++ [(ixOf (exN nodes az) a.2 : Int)]) = ixOf (exN nodes az) a.2 := by rw [mvTo, hg]; omega
  have hmem : a.2 ∈ exN nodes az := dd_mem (List.mem_map_of_mem ha)
  refine ⟨by simp [h1], by rw [hm]; exact ixOf_lt hmem, by rw [hg]; omega, a, ha, ?_, ?_⟩
  · rw [rdOf, List.take_append_of_le_length (by omega), List.take_of_length_le (by omega)]
  · rw [hm, List.getElem?_eq_getElem (ixOf_lt hmem)]
    congr 1
    exact List.getElem_idxOf (ixOf_lt hmem)
end
end Go.Proofs.YtiiiegflobihjaaGreat

/- Adversaries: Few and move of the reference. -/
namespace Go.Proofs.YtiiiegflobihjaaGreat
open Go.RowKit

/-- The error of move i of a state. -/
def mvErr (n : Int) (len : Nat) (ms : List (List Int)) (i : Nat) : Int :=
  if chkRd ((ms.getD i []).take 7) ≠ 0 then chkRd ((ms.getD i []).take 7) else if (ms.getD i []).getD 0 0 ≠ n then 22
  else if 0 < i ∧ 0 ≤ cmpL ((ms.getD (i - 1) []).take 7) ((ms.getD i []).take 7) then 14 else if (ms.getD i []).getD 7 0 < 0 ∨ (len : Int) ≤ (ms.getD i []).getD 7 0 then 2 else 0
theorem mvErr_1 {n : Int} {len : Nat} {ms : List (List Int)} {i : Nat} {x : List Int} (hx : ms.getD i [] = x) (h : chkRd (x.take 7) ≠ 0) : mvErr n len ms i = chkRd (x.take 7) := by rw [mvErr, hx, if_pos h]
theorem mvErr_2 {n : Int} {len : Nat} {ms : List (List Int)} {i : Nat} {x : List Int} (hx : ms.getD i [] = x) (h : chkRd (x.take 7) = 0) (h2 : x.getD 0 0 ≠ n) : mvErr n len ms i = 22 := by rw [mvErr, hx, if_neg (fun k => k h), if_pos h2]
theorem mvErr_3 {n : Int} {len : Nat} {ms : List (List Int)} {i : Nat} {x y : List Int} (hx : ms.getD i [] = x) (hy : ms.getD (i - 1) [] = y) (h : chkRd (x.take 7) = 0) (h2 : x.getD 0 0 = n) (hi : 0 < i) (h3 : 0 ≤ cmpL (y.take 7) (x.take 7)) : mvErr n len ms i = 14 := by
  rw [mvErr, hx, hy, if_neg (fun k => k h), if_neg (fun k => k h2), if_pos ⟨hi, h3⟩]
theorem mvErr_4 {n : Int} {len : Nat} {ms : List (List Int)} {i : Nat} {x : List Int} (hx : ms.getD i [] = x) (h : chkRd (x.take 7) = 0) (h2 : x.getD 0 0 = n) (h3 : ¬ (0 < i ∧ 0 ≤ cmpL ((ms.getD (i - 1) []).take 7) (x.take 7))) (h4 : x.getD 7 0 < 0 ∨ (len : Int) ≤ x.getD 7 0) : mvErr n len ms i = 2 := by
  rw [mvErr, hx, if_neg (fun k => k h), if_neg (fun k => k h2), if_neg h3, if_pos h4]
theorem mvErr_5 {n : Int} {len : Nat} {ms : List (List Int)} {i : Nat} {x : List Int} (hx : ms.getD i [] = x) (h : chkRd (x.take 7) = 0) (h2 : x.getD 0 0 = n) (h3 : ¬ (0 < i ∧ 0 ≤ cmpL ((ms.getD (i - 1) []).take 7) (x.take 7))) (h4 : ¬ (x.getD 7 0 < 0 ∨ (len : Int) ≤ x.getD 7 0)) : mvErr n len ms i = 0 := by
  rw [mvErr, hx, if_neg (fun k => k h), if_neg (fun k => k h2), if_neg h3, if_neg h4]

def fewA (ss : List (List (List Int))) : Bool := decide (ss.length ≤ 8) && decide (movesN ss ≤ 40)
set_option maxRecDepth 100000 in
theorem refFew {w : World} {v : Value} {n : Int} {ss : List (List (List Int))} (h : AdvV w v n ss) : Calls Tryz.prog 8 #[v] w fun e w' => e = .returned (.bool (fewA ss)) ∧ Below w.heap.size w w' := by
  have h0 := h
  obtain ⟨sv, rfl, a, c, b, off, rfl, ha, hc, _⟩ := h
  have hb := (Below.refl w.heap.size w).alloc (Nat.le_refl _) (.cells #[.int .i64 n, .slice a ss.length c] 24)
  by_cases h8 : ss.length ≤ 8
  · have HM := Lib.hid (refMoves (h0.keep hb) (by omega))
    have e := Lib.hid (show fewA ss = decide (movesN ss ≤ 40) by simp [fewA, h8])
    obtain ⟨m, hm⟩ : ∃ m, movesN ss = m := ⟨_, rfl⟩
    rw [hm] at HM e
    have h8' : decide ((ss.length : Int) ≤ 8) = true := decide_eq_true (by omega)
    clear ha hc hm h0
    go_enter Tryz.func8, Tryz.ntmps8
    go_wp2_with fail
    refine HM.out.mono ?_; rintro e1 w1 ⟨rfl, hb1⟩
    go_wp2
    go_ret
    exact ⟨ret_bool (by rw [e.out]; norm_cast), bt hb hb1 hb.size⟩
  · have e := Lib.hid (show fewA ss = false by simp [fewA, h8])
    have h8' : decide ((ss.length : Int) ≤ 8) = false := decide_eq_false (by omega)
    clear ha hc h0
    go_enter Tryz.func8, Tryz.ntmps8
    go_wp2
    go_ret
    exact ⟨ret_bool e.out.symm, hb⟩

theorem below_of_drew {w w' : World} (h : Below w.drew.heap.size w.drew w') : Below w.heap.size w w' := ((Below.refl _ w).drew).trans h
set_option maxRecDepth 100000 in
set_option maxHeartbeats 6400000 in
theorem refMove {w : World} {v mv : Value} {n : Int} {ss : List (List (List Int))} {ms : List (List Int)} {i : Nat} (hA : AdvV w v n ss) (hM : KS 8 w mv ms) (hi : i < ms.length) (_hl : ss.length ≤ 256) :
    Calls Tryz.prog 85 #[v, mv, .int .i64 i] w fun e w' => e = .returned (.int .i64 (mvErr n ss.length ms i)) ∧ Below w.heap.size w w' := by
  obtain ⟨sv, rfl, sa, sc, sb, so, rfl, hsa, hsc, _⟩ := hA
  obtain ⟨ma, mc, mb, mo, rfl, hma, hmc, hml⟩ := hM
  obtain rfl := hma (by omega)
  clear hma hsa hsc
  obtain ⟨hx8, hxc⟩ := hmc i hi
  obtain ⟨x, hx⟩ : ∃ x, ms.getD i [] = x := ⟨_, rfl⟩
  rw [hx] at hx8 hxc
  obtain ⟨y0, y1, y2, y3, y4, y5, y6, y7, rfl⟩ := eight hx8
  clear hx8
  have hb := (Below.refl w.heap.size w).alloc (Nat.le_refl _) (.cells #[.int .i64 n, .slice sa ss.length sc] 24)
  have hb2 := hb.alloc hb.size (.cells #[.int .i64 y0, .int .i64 y1, .int .i64 y2, .int .i64 y3, .int .i64 y4, .int .i64 y5, .int .i64 y6] 51)
  have hs0 : ((w.alloc (.cells #[.int .i64 n, .slice sa ss.length sc] 24)).alloc (.cells #[.int .i64 y0, .int .i64 y1, .int .i64 y2, .int .i64 y3, .int .i64 y4, .int .i64 y5, .int .i64 y6] 51)).heap[w.heap.size]? = some (.cells #[.int .i64 n, .slice sa ss.length sc] 24) := (Below.heap_alloc _ _ _ (by simp)).trans (heap_alloc_new w _)
  have hs1 : ((w.alloc (.cells #[.int .i64 n, .slice sa ss.length sc] 24)).alloc (.cells #[.int .i64 y0, .int .i64 y1, .int .i64 y2, .int .i64 y3, .int .i64 y4, .int .i64 y5, .int .i64 y6] 51)).heap[w.heap.size + 1]? = some (.cells #[.int .i64 y0, .int .i64 y1, .int .i64 y2, .int .i64 y3, .int .i64 y4, .int .i64 y5, .int .i64 y6] 51) := by
    have := heap_alloc_new (w.alloc (.cells #[.int .i64 n, .slice sa ss.length sc] 24)) (.cells #[.int .i64 y0, .int .i64 y1, .int .i64 y2, .int .i64 y3, .int .i64 y4, .int .i64 y5, .int .i64 y6] 51); rwa [World.size_alloc] at this
  replace hs0 := Lib.hid hs0; replace hs1 := Lib.hid hs1
  obtain ⟨c0, c1, c2, c3, c4, c5, c6, _⟩ := (hxc.keep hb).all8
  replace hxc := Lib.hid hxc
  obtain ⟨E, hE⟩ : ∃ E, chkRd [y0, y1, y2, y3, y4, y5, y6] = E := ⟨_, rfl⟩
  have HC := fun W => refRoundCheck y0 y1 y2 y3 y4 y5 y6 W
  rw [hE] at HC
  replace HC := Lib.hid HC
  replace hE := Lib.hid hE
  replace hx := Lib.hid hx
  by_cases hz : E = 0
  · subst hz
    by_cases hn : y0 = n
    · have hn' : (y0 != n) = false := by simp [hn]
      replace hn := Lib.hid hn
      by_cases hi0 : 0 < i
      · have hi1 : decide (0 < i) = true := decide_eq_true hi0
        obtain ⟨hy8, hyc⟩ := hmc (i - 1) (by omega)
        obtain ⟨y, hy⟩ : ∃ y, ms.getD (i - 1) [] = y := ⟨_, rfl⟩
        rw [hy] at hy8 hyc
        obtain ⟨z0, z1, z2, z3, z4, z5, z6, z7, rfl⟩ := eight hy8
        clear hy8 hmc
        obtain ⟨j, rfl⟩ : ∃ j, i = j + 1 := ⟨i - 1, by omega⟩
        rw [Nat.add_sub_cancel] at hyc hy
        replace hyc := Lib.hid hyc
        have HM := fun W => refRoundCompare z0 z1 z2 z3 z4 z5 z6 y0 y1 y2 y3 y4 y5 y6 W
        obtain ⟨C, hC⟩ : ∃ C, cmpL [z0, z1, z2, z3, z4, z5, z6] [y0, y1, y2, y3, y4, y5, y6] = C := ⟨_, rfl⟩
        rw [hC] at HM
        replace HM := Lib.hid HM
        replace hC := Lib.hid hC
        replace hy := Lib.hid hy
        by_cases hCz : 0 ≤ C
        · have hC1 : decide (0 ≤ C) = true := decide_eq_true hCz
          replace hCz := Lib.hid hCz
          go_enter Tryz.func85, Tryz.ntmps85
          go_wp2_with fail
          refine (HC.out _).mono ?_; rintro e w1 ⟨rfl, hb1⟩
          have k0 := (hb1.block _ (by simp; omega)).trans hs0.out
          have k1 := (hb1.block _ (by simp)).trans hs1.out
          have bw := bt hb2 hb1 hb2.size
          clear c0 c1 c2 c3 c4 c5 c6 hs0 hs1
          have d0 : w1.cell? ⟨w.heap.size, 0, none⟩ = some (.int .i64 n) := by rw [cell_of_row _ _ 0 _ _ _ k0]; rfl
          have d1 : w1.cell? ⟨w.heap.size, 1, none⟩ = some (.slice sa ss.length sc) := by rw [cell_of_row _ _ 1 _ _ _ k0]; rfl
          have r0 : w1.cell? ⟨w.heap.size + 1, 0, none⟩ = some (.int .i64 y0) := by rw [cell_of_row _ _ 0 _ _ _ k1]; rfl
          have r1 : w1.cell? ⟨w.heap.size + 1, 1, none⟩ = some (.int .i64 y1) := by rw [cell_of_row _ _ 1 _ _ _ k1]; rfl
          have r2 : w1.cell? ⟨w.heap.size + 1, 2, none⟩ = some (.int .i64 y2) := by rw [cell_of_row _ _ 2 _ _ _ k1]; rfl
          have r3 : w1.cell? ⟨w.heap.size + 1, 3, none⟩ = some (.int .i64 y3) := by rw [cell_of_row _ _ 3 _ _ _ k1]; rfl
          have r4 : w1.cell? ⟨w.heap.size + 1, 4, none⟩ = some (.int .i64 y4) := by rw [cell_of_row _ _ 4 _ _ _ k1]; rfl
          have r5 : w1.cell? ⟨w.heap.size + 1, 5, none⟩ = some (.int .i64 y5) := by rw [cell_of_row _ _ 5 _ _ _ k1]; rfl
          have r6 : w1.cell? ⟨w.heap.size + 1, 6, none⟩ = some (.int .i64 y6) := by rw [cell_of_row _ _ 6 _ _ _ k1]; rfl
          obtain ⟨e0, e1, e2, e3, e4, e5, e6, _⟩ := ((hyc.out.keep (bt hb2 hb1 hb2.size))).all8
          have hwr : IntKind.i64.wrap (j : Int) = (j : Int) := IntWalk.i64_in _ (by omega)
          have hj0 : (0 : Int) ≤ (j : Int) := Int.natCast_nonneg _
          have hj1 : (j : Int) < (ms.length : Int) := by omega
          go_wp2
          go_still_tail 10, (by kernel_rfl)
          change wpList _ _ _ _ _ w1.drew
          clear hwr
          go_wp2_with fail
          refine (HM.out _).mono ?_; rintro e w2 ⟨rfl, hb3⟩
          replace hb3 := below_of_drew hb3
          have b2 := bt bw hb3 bw.size
          clear e0 e1 e2 e3 e4 e5 e6
          go_wp2
          go_ret
          exact ⟨ret_int (mvErr_3 (y := [z0, z1, z2, z3, z4, z5, z6, z7]) hx.out (by rw [Nat.add_sub_cancel]; exact hy.out) hE.out hn.out (by omega) (by show 0 ≤ cmpL [z0, z1, z2, z3, z4, z5, z6] [y0, y1, y2, y3, y4, y5, y6]; rw [hC.out]; exact hCz.out)).symm, b2⟩
        · have hC1 : decide (0 ≤ C) = false := decide_eq_false hCz
          have h3 : Hid (¬ (0 < j + 1 ∧ 0 ≤ cmpL ((ms.getD (j + 1 - 1) []).take 7) ([y0, y1, y2, y3, y4, y5, y6, y7].take 7))) := fun k => by
            have k2 := k.2
            rw [Nat.add_sub_cancel, hy.out] at k2
            have k3 : 0 ≤ cmpL [z0, z1, z2, z3, z4, z5, z6] [y0, y1, y2, y3, y4, y5, y6] := k2
            rw [hC.out] at k3
            exact hCz k3
          clear hCz
          by_cases q1 : y7 < 0
          · have q1' : decide (y7 < 0) = true := decide_eq_true q1
            have q := Lib.hid (show y7 < 0 ∨ (ss.length : Int) ≤ y7 from .inl q1)
            clear q1
            go_enter Tryz.func85, Tryz.ntmps85
            go_wp2_with fail
            refine (HC.out _).mono ?_; rintro e w1 ⟨rfl, hb1⟩
            have k0 := (hb1.block _ (by simp; omega)).trans hs0.out
            have k1 := (hb1.block _ (by simp)).trans hs1.out
            have bw := bt hb2 hb1 hb2.size
            clear c0 c1 c2 c3 c4 c5 c6 hs0 hs1
            have d0 : w1.cell? ⟨w.heap.size, 0, none⟩ = some (.int .i64 n) := by rw [cell_of_row _ _ 0 _ _ _ k0]; rfl
            have d1 : w1.cell? ⟨w.heap.size, 1, none⟩ = some (.slice sa ss.length sc) := by rw [cell_of_row _ _ 1 _ _ _ k0]; rfl
            have r0 : w1.cell? ⟨w.heap.size + 1, 0, none⟩ = some (.int .i64 y0) := by rw [cell_of_row _ _ 0 _ _ _ k1]; rfl
            have r1 : w1.cell? ⟨w.heap.size + 1, 1, none⟩ = some (.int .i64 y1) := by rw [cell_of_row _ _ 1 _ _ _ k1]; rfl
            have r2 : w1.cell? ⟨w.heap.size + 1, 2, none⟩ = some (.int .i64 y2) := by rw [cell_of_row _ _ 2 _ _ _ k1]; rfl
            have r3 : w1.cell? ⟨w.heap.size + 1, 3, none⟩ = some (.int .i64 y3) := by rw [cell_of_row _ _ 3 _ _ _ k1]; rfl
            have r4 : w1.cell? ⟨w.heap.size + 1, 4, none⟩ = some (.int .i64 y4) := by rw [cell_of_row _ _ 4 _ _ _ k1]; rfl
            have r5 : w1.cell? ⟨w.heap.size + 1, 5, none⟩ = some (.int .i64 y5) := by rw [cell_of_row _ _ 5 _ _ _ k1]; rfl
            have r6 : w1.cell? ⟨w.heap.size + 1, 6, none⟩ = some (.int .i64 y6) := by rw [cell_of_row _ _ 6 _ _ _ k1]; rfl
            obtain ⟨e0, e1, e2, e3, e4, e5, e6, _⟩ := ((hyc.out.keep (bt hb2 hb1 hb2.size))).all8
            have hwr : IntKind.i64.wrap (j : Int) = (j : Int) := IntWalk.i64_in _ (by omega)
            have hj0 : (0 : Int) ≤ (j : Int) := Int.natCast_nonneg _
            have hj1 : (j : Int) < (ms.length : Int) := by omega
            go_wp2
            go_still_tail 10, (by kernel_rfl)
            change wpList _ _ _ _ _ w1.drew
            clear hwr
            go_wp2_with fail
            refine (HM.out _).mono ?_; rintro e w2 ⟨rfl, hb3⟩
            replace hb3 := below_of_drew hb3
            have b2 := bt bw hb3 bw.size
            clear e0 e1 e2 e3 e4 e5 e6
            have k2 := (hb3.block _ (Array.getElem?_eq_some_iff.1 k0).1).trans k0
            have d2 : w2.cell? ⟨w.heap.size, 1, none⟩ = some (.slice sa ss.length sc) := by rw [cell_of_row _ _ 1 _ _ _ k2]; rfl
            obtain ⟨_, _, _, _, _, _, _, e7⟩ := (hxc.out.keep b2).all8
            go_wp2
            go_quiet (fail)
            go_wp2
            go_ret
            exact ⟨ret_int (mvErr_4 hx.out hE.out hn.out h3.out q.out).symm, below_drewN b2 _⟩
          · have q1' : decide (y7 < 0) = false := decide_eq_false q1
            by_cases q2 : (ss.length : Int) ≤ y7
            · have q2' : decide ((ss.length : Int) ≤ y7) = true := decide_eq_true q2
              have q := Lib.hid (show y7 < 0 ∨ (ss.length : Int) ≤ y7 from .inr q2)
              clear q1 q2
              go_enter Tryz.func85, Tryz.ntmps85
              go_wp2_with fail
              refine (HC.out _).mono ?_; rintro e w1 ⟨rfl, hb1⟩
              have k0 := (hb1.block _ (by simp; omega)).trans hs0.out
              have k1 := (hb1.block _ (by simp)).trans hs1.out
              have bw := bt hb2 hb1 hb2.size
              clear c0 c1 c2 c3 c4 c5 c6 hs0 hs1
              have d0 : w1.cell? ⟨w.heap.size, 0, none⟩ = some (.int .i64 n) := by rw [cell_of_row _ _ 0 _ _ _ k0]; rfl
              have d1 : w1.cell? ⟨w.heap.size, 1, none⟩ = some (.slice sa ss.length sc) := by rw [cell_of_row _ _ 1 _ _ _ k0]; rfl
              have r0 : w1.cell? ⟨w.heap.size + 1, 0, none⟩ = some (.int .i64 y0) := by rw [cell_of_row _ _ 0 _ _ _ k1]; rfl
              have r1 : w1.cell? ⟨w.heap.size + 1, 1, none⟩ = some (.int .i64 y1) := by rw [cell_of_row _ _ 1 _ _ _ k1]; rfl
              have r2 : w1.cell? ⟨w.heap.size + 1, 2, none⟩ = some (.int .i64 y2) := by rw [cell_of_row _ _ 2 _ _ _ k1]; rfl
              have r3 : w1.cell? ⟨w.heap.size + 1, 3, none⟩ = some (.int .i64 y3) := by rw [cell_of_row _ _ 3 _ _ _ k1]; rfl
              have r4 : w1.cell? ⟨w.heap.size + 1, 4, none⟩ = some (.int .i64 y4) := by rw [cell_of_row _ _ 4 _ _ _ k1]; rfl
              have r5 : w1.cell? ⟨w.heap.size + 1, 5, none⟩ = some (.int .i64 y5) := by rw [cell_of_row _ _ 5 _ _ _ k1]; rfl
              have r6 : w1.cell? ⟨w.heap.size + 1, 6, none⟩ = some (.int .i64 y6) := by rw [cell_of_row _ _ 6 _ _ _ k1]; rfl
              obtain ⟨e0, e1, e2, e3, e4, e5, e6, _⟩ := ((hyc.out.keep (bt hb2 hb1 hb2.size))).all8
              have hwr : IntKind.i64.wrap (j : Int) = (j : Int) := IntWalk.i64_in _ (by omega)
              have hj0 : (0 : Int) ≤ (j : Int) := Int.natCast_nonneg _
              have hj1 : (j : Int) < (ms.length : Int) := by omega
              go_wp2
              go_still_tail 10, (by kernel_rfl)
              change wpList _ _ _ _ _ w1.drew
              clear hwr
              go_wp2_with fail
              refine (HM.out _).mono ?_; rintro e w2 ⟨rfl, hb3⟩
              replace hb3 := below_of_drew hb3
              have b2 := bt bw hb3 bw.size
              clear e0 e1 e2 e3 e4 e5 e6
              have k2 := (hb3.block _ (Array.getElem?_eq_some_iff.1 k0).1).trans k0
              have d2 : w2.cell? ⟨w.heap.size, 1, none⟩ = some (.slice sa ss.length sc) := by rw [cell_of_row _ _ 1 _ _ _ k2]; rfl
              obtain ⟨_, _, _, _, _, _, _, e7⟩ := (hxc.out.keep b2).all8
              go_wp2
              go_quiet (fail)
              go_wp2
              go_ret
              exact ⟨ret_int (mvErr_4 hx.out hE.out hn.out h3.out q.out).symm, below_drewN b2 _⟩
            · have q2' : decide ((ss.length : Int) ≤ y7) = false := decide_eq_false q2
              have q := Lib.hid (show ¬ (y7 < 0 ∨ (ss.length : Int) ≤ y7) by omega)
              clear q1 q2
              go_enter Tryz.func85, Tryz.ntmps85
              go_wp2_with fail
              refine (HC.out _).mono ?_; rintro e w1 ⟨rfl, hb1⟩
              have k0 := (hb1.block _ (by simp; omega)).trans hs0.out
              have k1 := (hb1.block _ (by simp)).trans hs1.out
              have bw := bt hb2 hb1 hb2.size
              clear c0 c1 c2 c3 c4 c5 c6 hs0 hs1
              have d0 : w1.cell? ⟨w.heap.size, 0, none⟩ = some (.int .i64 n) := by rw [cell_of_row _ _ 0 _ _ _ k0]; rfl
              have d1 : w1.cell? ⟨w.heap.size, 1, none⟩ = some (.slice sa ss.length sc) := by rw [cell_of_row _ _ 1 _ _ _ k0]; rfl
              have r0 : w1.cell? ⟨w.heap.size + 1, 0, none⟩ = some (.int .i64 y0) := by rw [cell_of_row _ _ 0 _ _ _ k1]; rfl
              have r1 : w1.cell? ⟨w.heap.size + 1, 1, none⟩ = some (.int .i64 y1) := by rw [cell_of_row _ _ 1 _ _ _ k1]; rfl
              have r2 : w1.cell? ⟨w.heap.size + 1, 2, none⟩ = some (.int .i64 y2) := by rw [cell_of_row _ _ 2 _ _ _ k1]; rfl
              have r3 : w1.cell? ⟨w.heap.size + 1, 3, none⟩ = some (.int .i64 y3) := by rw [cell_of_row _ _ 3 _ _ _ k1]; rfl
              have r4 : w1.cell? ⟨w.heap.size + 1, 4, none⟩ = some (.int .i64 y4) := by rw [cell_of_row _ _ 4 _ _ _ k1]; rfl
              have r5 : w1.cell? ⟨w.heap.size + 1, 5, none⟩ = some (.int .i64 y5) := by rw [cell_of_row _ _ 5 _ _ _ k1]; rfl
              have r6 : w1.cell? ⟨w.heap.size + 1, 6, none⟩ = some (.int .i64 y6) := by rw [cell_of_row _ _ 6 _ _ _ k1]; rfl
              obtain ⟨e0, e1, e2, e3, e4, e5, e6, _⟩ := ((hyc.out.keep (bt hb2 hb1 hb2.size))).all8
              have hwr : IntKind.i64.wrap (j : Int) = (j : Int) := IntWalk.i64_in _ (by omega)
              have hj0 : (0 : Int) ≤ (j : Int) := Int.natCast_nonneg _
              have hj1 : (j : Int) < (ms.length : Int) := by omega
              go_wp2
              go_still_tail 10, (by kernel_rfl)
              change wpList _ _ _ _ _ w1.drew
              clear hwr
              go_wp2_with fail
              refine (HM.out _).mono ?_; rintro e w2 ⟨rfl, hb3⟩
              replace hb3 := below_of_drew hb3
              have b2 := bt bw hb3 bw.size
              clear e0 e1 e2 e3 e4 e5 e6
              have k2 := (hb3.block _ (Array.getElem?_eq_some_iff.1 k0).1).trans k0
              have d2 : w2.cell? ⟨w.heap.size, 1, none⟩ = some (.slice sa ss.length sc) := by rw [cell_of_row _ _ 1 _ _ _ k2]; rfl
              obtain ⟨_, _, _, _, _, _, _, e7⟩ := (hxc.out.keep b2).all8
              go_wp2
              go_quiet (fail)
              go_wp2
              go_ret
              exact ⟨ret_int (mvErr_5 hx.out hE.out hn.out h3.out (by have := q.out; show ¬ (y7 < 0 ∨ (ss.length : Int) ≤ y7); omega)).symm, below_drewN b2 _⟩
      · have h3 : Hid (¬ (0 < i ∧ 0 ≤ cmpL ((ms.getD (i - 1) []).take 7) ([y0, y1, y2, y3, y4, y5, y6, y7].take 7))) := fun k => hi0 k.1
        have hi1 : decide (0 < i) = false := decide_eq_false hi0
        clear hi0 hmc
        by_cases q1 : y7 < 0
        · have q1' : decide (y7 < 0) = true := decide_eq_true q1
          have q := Lib.hid (show y7 < 0 ∨ (ss.length : Int) ≤ y7 from .inl q1)
          clear q1
          go_enter Tryz.func85, Tryz.ntmps85
          go_wp2_with fail
          refine (HC.out _).mono ?_; rintro e w1 ⟨rfl, hb1⟩
          have k0 := (hb1.block _ (by simp; omega)).trans hs0.out
          have k1 := (hb1.block _ (by simp)).trans hs1.out
          have bw := bt hb2 hb1 hb2.size
          clear c0 c1 c2 c3 c4 c5 c6 hs0 hs1
          have d0 : w1.cell? ⟨w.heap.size, 0, none⟩ = some (.int .i64 n) := by rw [cell_of_row _ _ 0 _ _ _ k0]; rfl
          have d1 : w1.cell? ⟨w.heap.size, 1, none⟩ = some (.slice sa ss.length sc) := by rw [cell_of_row _ _ 1 _ _ _ k0]; rfl
          have r0 : w1.cell? ⟨w.heap.size + 1, 0, none⟩ = some (.int .i64 y0) := by rw [cell_of_row _ _ 0 _ _ _ k1]; rfl
          have r1 : w1.cell? ⟨w.heap.size + 1, 1, none⟩ = some (.int .i64 y1) := by rw [cell_of_row _ _ 1 _ _ _ k1]; rfl
          have r2 : w1.cell? ⟨w.heap.size + 1, 2, none⟩ = some (.int .i64 y2) := by rw [cell_of_row _ _ 2 _ _ _ k1]; rfl
          have r3 : w1.cell? ⟨w.heap.size + 1, 3, none⟩ = some (.int .i64 y3) := by rw [cell_of_row _ _ 3 _ _ _ k1]; rfl
          have r4 : w1.cell? ⟨w.heap.size + 1, 4, none⟩ = some (.int .i64 y4) := by rw [cell_of_row _ _ 4 _ _ _ k1]; rfl
          have r5 : w1.cell? ⟨w.heap.size + 1, 5, none⟩ = some (.int .i64 y5) := by rw [cell_of_row _ _ 5 _ _ _ k1]; rfl
          have r6 : w1.cell? ⟨w.heap.size + 1, 6, none⟩ = some (.int .i64 y6) := by rw [cell_of_row _ _ 6 _ _ _ k1]; rfl
          have bz : Below w.heap.size w w1 := bw
          obtain ⟨_, _, _, _, _, _, _, e7⟩ := (hxc.out.keep bw).all8
          go_wp2
          go_quiet (fail)
          go_wp2
          go_quiet (fail)
          go_wp2
          go_ret
          exact ⟨ret_int (mvErr_4 hx.out hE.out hn.out h3.out q.out).symm, below_drewN (below_drewN bz _) _⟩
        · have q1' : decide (y7 < 0) = false := decide_eq_false q1
          by_cases q2 : (ss.length : Int) ≤ y7
          · have q2' : decide ((ss.length : Int) ≤ y7) = true := decide_eq_true q2
            have q := Lib.hid (show y7 < 0 ∨ (ss.length : Int) ≤ y7 from .inr q2)
            clear q1 q2
            go_enter Tryz.func85, Tryz.ntmps85
            go_wp2_with fail
            refine (HC.out _).mono ?_; rintro e w1 ⟨rfl, hb1⟩
            have k0 := (hb1.block _ (by simp; omega)).trans hs0.out
            have k1 := (hb1.block _ (by simp)).trans hs1.out
            have bw := bt hb2 hb1 hb2.size
            clear c0 c1 c2 c3 c4 c5 c6 hs0 hs1
            have d0 : w1.cell? ⟨w.heap.size, 0, none⟩ = some (.int .i64 n) := by rw [cell_of_row _ _ 0 _ _ _ k0]; rfl
            have d1 : w1.cell? ⟨w.heap.size, 1, none⟩ = some (.slice sa ss.length sc) := by rw [cell_of_row _ _ 1 _ _ _ k0]; rfl
            have r0 : w1.cell? ⟨w.heap.size + 1, 0, none⟩ = some (.int .i64 y0) := by rw [cell_of_row _ _ 0 _ _ _ k1]; rfl
            have r1 : w1.cell? ⟨w.heap.size + 1, 1, none⟩ = some (.int .i64 y1) := by rw [cell_of_row _ _ 1 _ _ _ k1]; rfl
            have r2 : w1.cell? ⟨w.heap.size + 1, 2, none⟩ = some (.int .i64 y2) := by rw [cell_of_row _ _ 2 _ _ _ k1]; rfl
            have r3 : w1.cell? ⟨w.heap.size + 1, 3, none⟩ = some (.int .i64 y3) := by rw [cell_of_row _ _ 3 _ _ _ k1]; rfl
            have r4 : w1.cell? ⟨w.heap.size + 1, 4, none⟩ = some (.int .i64 y4) := by rw [cell_of_row _ _ 4 _ _ _ k1]; rfl
            have r5 : w1.cell? ⟨w.heap.size + 1, 5, none⟩ = some (.int .i64 y5) := by rw [cell_of_row _ _ 5 _ _ _ k1]; rfl
            have r6 : w1.cell? ⟨w.heap.size + 1, 6, none⟩ = some (.int .i64 y6) := by rw [cell_of_row _ _ 6 _ _ _ k1]; rfl
            have bz : Below w.heap.size w w1 := bw
            obtain ⟨_, _, _, _, _, _, _, e7⟩ := (hxc.out.keep bw).all8
            go_wp2
            go_quiet (fail)
            go_wp2
            go_quiet (fail)
            go_wp2
            go_ret
            exact ⟨ret_int (mvErr_4 hx.out hE.out hn.out h3.out q.out).symm, below_drewN (below_drewN bz _) _⟩
          · have q2' : decide ((ss.length : Int) ≤ y7) = false := decide_eq_false q2
            have q := Lib.hid (show ¬ (y7 < 0 ∨ (ss.length : Int) ≤ y7) by omega)
            clear q1 q2
            go_enter Tryz.func85, Tryz.ntmps85
            go_wp2_with fail
            refine (HC.out _).mono ?_; rintro e w1 ⟨rfl, hb1⟩
            have k0 := (hb1.block _ (by simp; omega)).trans hs0.out
            have k1 := (hb1.block _ (by simp)).trans hs1.out
            have bw := bt hb2 hb1 hb2.size
            clear c0 c1 c2 c3 c4 c5 c6 hs0 hs1
            have d0 : w1.cell? ⟨w.heap.size, 0, none⟩ = some (.int .i64 n) := by rw [cell_of_row _ _ 0 _ _ _ k0]; rfl
            have d1 : w1.cell? ⟨w.heap.size, 1, none⟩ = some (.slice sa ss.length sc) := by rw [cell_of_row _ _ 1 _ _ _ k0]; rfl
            have r0 : w1.cell? ⟨w.heap.size + 1, 0, none⟩ = some (.int .i64 y0) := by rw [cell_of_row _ _ 0 _ _ _ k1]; rfl
            have r1 : w1.cell? ⟨w.heap.size + 1, 1, none⟩ = some (.int .i64 y1) := by rw [cell_of_row _ _ 1 _ _ _ k1]; rfl
            have r2 : w1.cell? ⟨w.heap.size + 1, 2, none⟩ = some (.int .i64 y2) := by rw [cell_of_row _ _ 2 _ _ _ k1]; rfl
            have r3 : w1.cell? ⟨w.heap.size + 1, 3, none⟩ = some (.int .i64 y3) := by rw [cell_of_row _ _ 3 _ _ _ k1]; rfl
            have r4 : w1.cell? ⟨w.heap.size + 1, 4, none⟩ = some (.int .i64 y4) := by rw [cell_of_row _ _ 4 _ _ _ k1]; rfl
            have r5 : w1.cell? ⟨w.heap.size + 1, 5, none⟩ = some (.int .i64 y5) := by rw [cell_of_row _ _ 5 _ _ _ k1]; rfl
            have r6 : w1.cell? ⟨w.heap.size + 1, 6, none⟩ = some (.int .i64 y6) := by rw [cell_of_row _ _ 6 _ _ _ k1]; rfl
            have bz : Below w.heap.size w w1 := bw
            obtain ⟨_, _, _, _, _, _, _, e7⟩ := (hxc.out.keep bw).all8
            go_wp2
            go_quiet (fail)
            go_wp2
            go_quiet (fail)
            go_wp2
            go_ret
            exact ⟨ret_int (mvErr_5 hx.out hE.out hn.out h3.out (by have := q.out; show ¬ (y7 < 0 ∨ (ss.length : Int) ≤ y7); omega)).symm, below_drewN (below_drewN bz _) _⟩
    · have hn' : (y0 != n) = true := by simpa using hn
      replace hn := Lib.hid hn
      go_enter Tryz.func85, Tryz.ntmps85
      go_wp2_with fail
      refine (HC.out _).mono ?_; rintro e w1 ⟨rfl, hb1⟩
      have k0 := (hb1.block _ (by simp; omega)).trans hs0.out
      have k1 := (hb1.block _ (by simp)).trans hs1.out
      have bw := bt hb2 hb1 hb2.size
      clear c0 c1 c2 c3 c4 c5 c6 hs0 hs1
      have d0 : w1.cell? ⟨w.heap.size, 0, none⟩ = some (.int .i64 n) := by rw [cell_of_row _ _ 0 _ _ _ k0]; rfl
      have d1 : w1.cell? ⟨w.heap.size, 1, none⟩ = some (.slice sa ss.length sc) := by rw [cell_of_row _ _ 1 _ _ _ k0]; rfl
      have r0 : w1.cell? ⟨w.heap.size + 1, 0, none⟩ = some (.int .i64 y0) := by rw [cell_of_row _ _ 0 _ _ _ k1]; rfl
      have r1 : w1.cell? ⟨w.heap.size + 1, 1, none⟩ = some (.int .i64 y1) := by rw [cell_of_row _ _ 1 _ _ _ k1]; rfl
      have r2 : w1.cell? ⟨w.heap.size + 1, 2, none⟩ = some (.int .i64 y2) := by rw [cell_of_row _ _ 2 _ _ _ k1]; rfl
      have r3 : w1.cell? ⟨w.heap.size + 1, 3, none⟩ = some (.int .i64 y3) := by rw [cell_of_row _ _ 3 _ _ _ k1]; rfl
      have r4 : w1.cell? ⟨w.heap.size + 1, 4, none⟩ = some (.int .i64 y4) := by rw [cell_of_row _ _ 4 _ _ _ k1]; rfl
      have r5 : w1.cell? ⟨w.heap.size + 1, 5, none⟩ = some (.int .i64 y5) := by rw [cell_of_row _ _ 5 _ _ _ k1]; rfl
      have r6 : w1.cell? ⟨w.heap.size + 1, 6, none⟩ = some (.int .i64 y6) := by rw [cell_of_row _ _ 6 _ _ _ k1]; rfl
      go_wp2
      go_ret
      exact ⟨ret_int (mvErr_2 hx.out hE.out hn.out).symm, bw⟩

  · have hz' : (E != 0) = true := by simpa using hz
    replace hz := Lib.hid hz
    go_enter Tryz.func85, Tryz.ntmps85
    go_wp2_with fail
    refine (HC.out _).mono ?_; rintro e w1 ⟨rfl, hb1⟩
    have k0 := (hb1.block _ (by simp; omega)).trans hs0.out
    have k1 := (hb1.block _ (by simp)).trans hs1.out
    have bw := bt hb2 hb1 hb2.size
    clear c0 c1 c2 c3 c4 c5 c6 hs0 hs1
    have d0 : w1.cell? ⟨w.heap.size, 0, none⟩ = some (.int .i64 n) := by rw [cell_of_row _ _ 0 _ _ _ k0]; rfl
    have d1 : w1.cell? ⟨w.heap.size, 1, none⟩ = some (.slice sa ss.length sc) := by rw [cell_of_row _ _ 1 _ _ _ k0]; rfl
    have r0 : w1.cell? ⟨w.heap.size + 1, 0, none⟩ = some (.int .i64 y0) := by rw [cell_of_row _ _ 0 _ _ _ k1]; rfl
    have r1 : w1.cell? ⟨w.heap.size + 1, 1, none⟩ = some (.int .i64 y1) := by rw [cell_of_row _ _ 1 _ _ _ k1]; rfl
    have r2 : w1.cell? ⟨w.heap.size + 1, 2, none⟩ = some (.int .i64 y2) := by rw [cell_of_row _ _ 2 _ _ _ k1]; rfl
    have r3 : w1.cell? ⟨w.heap.size + 1, 3, none⟩ = some (.int .i64 y3) := by rw [cell_of_row _ _ 3 _ _ _ k1]; rfl
    have r4 : w1.cell? ⟨w.heap.size + 1, 4, none⟩ = some (.int .i64 y4) := by rw [cell_of_row _ _ 4 _ _ _ k1]; rfl
    have r5 : w1.cell? ⟨w.heap.size + 1, 5, none⟩ = some (.int .i64 y5) := by rw [cell_of_row _ _ 5 _ _ _ k1]; rfl
    have r6 : w1.cell? ⟨w.heap.size + 1, 6, none⟩ = some (.int .i64 y6) := by rw [cell_of_row _ _ 6 _ _ _ k1]; rfl

    go_wp2
    go_ret
    exact ⟨ret_int (by rw [mvErr_1 hx.out (by rw [show ([y0, y1, y2, y3, y4, y5, y6, y7] : List Int).take 7 = [y0, y1, y2, y3, y4, y5, y6] from rfl, hE.out]; exact hz.out)]; exact hE.out.symm), bw⟩
end Go.Proofs.YtiiiegflobihjaaGreat

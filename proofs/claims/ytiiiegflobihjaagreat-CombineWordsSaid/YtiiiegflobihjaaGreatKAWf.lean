/- Texts of this claim, put together: A6 CA Rd A7. -/
import Derived.Test.YtiiiegflobihjaaGreatKAWe
import Derived.StillTailTactics
import Derived.Test.YtiiiegflobihjaaGreatKAWb
import Derived.OrdersIn
import Derived.Deep.QuietTactic
import Derived.BigQuiet
import Derived.IntWalk

/- Adversaries: Moves, Few, move of the reference. -/
namespace Go.Proofs.YtiiiegflobihjaaGreat
open Go.RowKit

def movesN (ss : List (List (List Int))) : Nat := (ss.map List.length).foldr (· + ·) 0
def mvPre (ss : List (List (List Int))) (k : Nat) : Nat := movesN (ss.take k)
theorem movesN_app (a b : List (List (List Int))) : movesN (a ++ b) = movesN a + movesN b := by
  unfold movesN
  induction a with
  | nil => simp
  | cons x a ih => simp only [List.cons_append, List.map_cons, List.foldr_cons, ih]; omega
theorem mvPre_succ {ss : List (List (List Int))} {k : Nat} (h : k < ss.length) : mvPre ss (k + 1) = mvPre ss k + (ss.getD k []).length := by
  rw [mvPre, take_snoc h [], movesN_app]; simp [mvPre, movesN]
theorem mvPre_le (ss : List (List (List Int))) (k : Nat) : mvPre ss k ≤ movesN ss := by
  have := movesN_app (ss.take k) (ss.drop k)
  rw [List.take_append_drop] at this
  rw [mvPre]; omega
theorem mvPre_all (ss : List (List (List Int))) : mvPre ss ss.length = movesN ss := by rw [mvPre, List.take_length]
theorem movesN_big : ∀ (ss : List (List (List Int))) (B : Nat), (∀ s ∈ ss, s.length ≤ B) → movesN ss ≤ ss.length * B
  | [], B, _ => by simp [movesN]
  | s :: ss, B, h => by
    have h1 := h s (by simp)
    have h2 := movesN_big ss B fun s hs => h s (by simp [hs])
    have e : movesN (s :: ss) = s.length + movesN ss := rfl
    rw [e, List.length_cons, Nat.add_mul]; omega
/-- An adversary as a value. -/
def AdvV (w : World) (v : Value) (n : Int) (ss : List (List (List Int))) : Prop := ∃ sv, v = .agg #[.int .i64 n, sv] ∧ KSS 8 w sv ss
theorem AdvV.keep {w w' : World} {v : Value} {n : Int} {ss : List (List (List Int))} (h : AdvV w v n ss) (hb : Below w.heap.size w w') : AdvV w' v n ss := by
  obtain ⟨sv, h1, h2⟩ := h; exact ⟨sv, h1, h2.keep hb⟩

set_option maxRecDepth 100000 in
set_option maxHeartbeats 1600000 in
theorem refMoves {w : World} {v : Value} {n : Int} {ss : List (List (List Int))} (h : AdvV w v n ss) (hl : ss.length ≤ 256) : Calls Tryz.prog 27 #[v] w fun e w' => e = .returned (.int .i64 (movesN ss)) ∧ Below w.heap.size w w' := by
  obtain ⟨sv, rfl, a, c, b, off, rfl, ha, hc, _⟩ := h
  have hb := (Below.refl w.heap.size w).alloc (Nat.le_refl _) (.cells #[.int .i64 n, .slice a ss.length c] 24)
  have hcb := hc.keep hb
  have hB : ∀ s ∈ ss, s.length ≤ 2199023255552 := fun s hs => by
    obtain ⟨j, hj, rfl⟩ := List.mem_iff_getElem.1 hs
    obtain ⟨u, _, _, _, _, _, _, _, _, hl⟩ := hc j hj
    rwa [getD_eq hj] at hl
  have hM := movesN_big ss _ hB
  have hM2 : ss.length * 2199023255552 ≤ 256 * 2199023255552 := Nat.mul_le_mul_right _ hl
  have hP := mvPre_le ss
  have hA := Lib.hid (mvPre_all ss)
  clear hB hc
  go_enter Tryz.func27, Tryz.ntmps27
  go_wp2
  go_loop [3, 4] (fun nv iv => ∃ k : Nat, k ≤ ss.length ∧ iv = .int .i64 k ∧ nv = .int .i64 (mvPre ss k)) (fun _ iv => ss.length - (intOf iv).toNat)
  case atStart => exact ⟨0, by omega, rfl, rfl⟩
  case round =>
    obtain ⟨k, hk, rfl, rfl⟩ := hrel
    have p1 := hP k
    by_cases hlt : k < ss.length
    · obtain rfl := ha (by omega)
      obtain ⟨u, hcu, hu⟩ := hcb k hlt
      obtain ⟨ua, uc, rfl⟩ := hu.shape
      have hs := mvPre_succ hlt
      have p2 := hP (k + 1)
      obtain ⟨p, hp⟩ : ∃ p, mvPre ss k = p := ⟨_, rfl⟩
      obtain ⟨m, hm⟩ : ∃ m, (ss.getD k []).length = m := ⟨_, rfl⟩
      rw [hp] at p1 hs
      rw [hm] at hs hcu
      rw [hs] at p2
      rw [hp]
      replace hs := Lib.hid hs
      clear hp hm hP ha hcb hu
      go_wp2
      go_round
      case rel => exact ⟨k + 1, by omega, by go_num, by rw [hs.out]; go_num⟩
      case measure => simp [intOf]; omega
    · obtain rfl : k = ss.length := by omega
      clear ha hcb hP
      go_wp2
      go_ret
      exact ⟨ret_int (by rw [hA.out]), hb⟩
end Go.Proofs.YtiiiegflobihjaaGreat

/- Exploring a graph of nodes, in the order in which they are met: plain lists. -/
namespace Go.Proofs.YtiiiegflobihjaaGreat

section
variable {N : Type} [DecidableEq N]
/-- The nodes behind the arrows of one node. -/
def exN (nodes : List N) (az : List (List Int × N)) : List N := dd nodes (az.map Prod.snd)
/-- Its moves. -/
def exL (nodes : List N) (az : List (List Int × N)) : List (List Int) := az.map fun a => a.1 ++ [(ixOf (exN nodes az) a.2 : Int)]
def exG (step : N → List (List Int × N)) : Nat → Nat → List N → List (List (List Int)) → Option (Option (List (List (List Int))))
  | 0, _, _, _ => none
  | f + 1, i, nodes, out =>
    match nodes[i]? with
    | none => some (some out)
    | some x => if 256 < (exN nodes (step x)).length ∨ 4096 < movesN (out ++ [exL nodes (step x)]) then some none
        else exG step f (i + 1) (exN nodes (step x)) (out ++ [exL nodes (step x)])
variable {step step' : N → List (List Int × N)} {f i k : Nat} {nodes : List N} {out : List (List (List Int))} {x : N} {az : List (List Int × N)}
theorem exG_end (h : ¬ i < nodes.length) : exG step (f + 1) i nodes out = some (some out) := by
  rw [exG, List.getElem?_eq_none (by omega)]
theorem exG_big (h : nodes[i]? = some x) (hb : 256 < (exN nodes (step x)).length ∨ 4096 < movesN (out ++ [exL nodes (step x)])) : exG step (f + 1) i nodes out = some none := by
  rw [exG, h]; simp only; rw [if_pos hb]
theorem exG_step (h : nodes[i]? = some x) (hb : ¬ (256 < (exN nodes (step x)).length ∨ 4096 < movesN (out ++ [exL nodes (step x)]))) :
    exG step (f + 1) i nodes out = exG step f (i + 1) (exN nodes (step x)) (out ++ [exL nodes (step x)]) := by
  rw [exG, h]; simp only; rw [if_neg hb]
theorem exG_some (step : N → List (List Int × N)) : ∀ (f i : Nat) (nodes : List N) (out : List (List (List Int))), nodes.length ≤ 256 → 257 ≤ f + i → 0 < f → ∃ R, exG step f i nodes out = some R
  | 0, _, _, _, _, _, h => absurd h (by omega)
  | f + 1, i, nodes, out, h1, h2, _ => by
    by_cases hi : i < nodes.length
    · have hx := List.getElem?_eq_getElem hi
      by_cases hb : 256 < (exN nodes (step nodes[i])).length ∨ 4096 < movesN (out ++ [exL nodes (step nodes[i])])
      · exact ⟨_, exG_big hx hb⟩
      · rw [exG_step hx hb]
        exact exG_some step f (i + 1) _ _ (by omega) (by omega) (by omega)
    · exact ⟨_, exG_end hi⟩
theorem exN_mem (h : x ∈ exN nodes az) : x ∈ nodes ∨ ∃ a ∈ az, a.2 = x := by
  rcases mem_dd h with h | h
  · exact .inl h
  · obtain ⟨a, ha, rfl⟩ := List.mem_map.1 h; exact .inr ⟨a, ha, rfl⟩
/-- The inner loop: one arrow more. -/
theorem exN_in (h : k < az.length) (hx : az[k].2 ∈ exN nodes (az.take k)) : exN nodes (az.take (k + 1)) = exN nodes (az.take k) := by
  rw [exN, List.take_succ_eq_append_getElem h, List.map_append, List.map_singleton, dd_snoc]; exact if_pos hx
theorem exN_out (h : k < az.length) (hx : az[k].2 ∉ exN nodes (az.take k)) : exN nodes (az.take (k + 1)) = exN nodes (az.take k) ++ [az[k].2] := by
  rw [exN, List.take_succ_eq_append_getElem h, List.map_append, List.map_singleton, dd_snoc]; exact if_neg hx
theorem exN_ix (hx : x ∈ exN nodes (az.take k)) : ixOf (exN nodes az) x = ixOf (exN nodes (az.take k)) x := by
  have h1 : exN nodes az = dd (exN nodes (az.take k)) ((az.drop k).map Prod.snd) := by
    conv => lhs; rw [exN, ← List.take_append_drop k az, List.map_append, dd_app]
    rfl
  rw [h1, dd_idx hx]
theorem exL_length : (exL nodes az).length = az.length := by rw [exL, List.length_map]
theorem exL_in (h : k < az.length) (hx : az[k].2 ∈ exN nodes (az.take k)) : (exL nodes az).take (k + 1) = (exL nodes az).take k ++ [az[k].1 ++ [(ixOf (exN nodes (az.take k)) az[k].2 : Int)]] := by
  rw [List.take_succ_eq_append_getElem (by rw [exL_length]; exact h), ← exN_ix hx]
  simp [exL]
theorem exL_out (h : k < az.length) (hx : az[k].2 ∉ exN nodes (az.take k)) : (exL nodes az).take (k + 1) = (exL nodes az).take k ++ [az[k].1 ++ [((exN nodes (az.take k)).length : Int)]] := by
  rw [List.take_succ_eq_append_getElem (by rw [exL_length]; exact h)]
  have h1 : az[k].2 ∈ exN nodes (az.take (k + 1)) := by rw [exN_out h hx]; simp
  have h2 : ixOf (exN nodes az) az[k].2 = (exN nodes (az.take k)).length := by
    rw [exN_ix h1, exN_out h hx, ixOf, List.idxOf_append, if_neg hx]; simp
  rw [← h2]
  simp [exL]
theorem exN_in' {a : List Int × N} (h : az[k]? = some a) (hx : a.2 ∈ exN nodes (az.take k)) : exN nodes (az.take (k + 1)) = exN nodes (az.take k) := by
  obtain ⟨hk, rfl⟩ := List.getElem?_eq_some_iff.1 h; exact exN_in hk hx
theorem exN_out' {a : List Int × N} (h : az[k]? = some a) (hx : a.2 ∉ exN nodes (az.take k)) : exN nodes (az.take (k + 1)) = exN nodes (az.take k) ++ [a.2] := by
  obtain ⟨hk, rfl⟩ := List.getElem?_eq_some_iff.1 h; exact exN_out hk hx
theorem exL_in' {a : List Int × N} (h : az[k]? = some a) (hx : a.2 ∈ exN nodes (az.take k)) : (exL nodes az).take (k + 1) = (exL nodes az).take k ++ [a.1 ++ [(ixOf (exN nodes (az.take k)) a.2 : Int)]] := by
  obtain ⟨hk, rfl⟩ := List.getElem?_eq_some_iff.1 h; exact exL_in hk hx
theorem exL_out' {a : List Int × N} (h : az[k]? = some a) (hx : a.2 ∉ exN nodes (az.take k)) : (exL nodes az).take (k + 1) = (exL nodes az).take k ++ [a.1 ++ [((exN nodes (az.take k)).length : Int)]] := by
  obtain ⟨hk, rfl⟩ := List.getElem?_eq_some_iff.1 h; exact exL_out hk hx
theorem movesN_snoc (out : List (List (List Int))) (l : List (List Int)) : movesN (out ++ [l]) = movesN out + l.length := by
  rw [movesN, movesN, List.map_append, List.foldr_append]
  simp only [List.map_cons, List.map_nil, List.foldr_cons, List.foldr_nil, Nat.add_zero]
  induction out with
  | nil => simp
  | cons a out ih => simp only [List.map_cons, List.foldr_cons, ih]; omega
theorem exN_nodup (h : nodes.Nodup) : (exN nodes az).Nodup := dd_nodup h
theorem exN_len : (exN nodes az).length ≤ nodes.length + az.length := by
  have := dd_le (az.map Prod.snd) nodes
  rwa [List.length_map] at this
theorem exN_ge : nodes.length ≤ (exN nodes az).length := by
  obtain ⟨t, ht⟩ := dd_pre (az.map Prod.snd) nodes
  rw [exN, ht, List.length_append]; omega
/-- Each target is the number of a node. -/
theorem exL_to {m : List Int} (h7 : ∀ a ∈ az, a.1.length = 7) (h : m ∈ exL nodes az) : m.length = 8 ∧ mvTo m < (exN nodes az).length ∧ 0 ≤ m.getD 7 0 ∧ ∃ a ∈ az, rdOf m = a.1 ∧ (exN nodes az)[mvTo m]? = some a.2 := by
  obtain ⟨a, ha, rfl⟩ := List.mem_map.1 h
  have h1 := h7 a ha
  have hg : (a.1 ++ [(ixOf (exN nodes az) a.2 : Int)]).getD 7 0 = (ixOf (exN nodes az) a.2 : Int) := by
    rw [List.getD_eq_getElem?_getD, List.getElem?_append_right (by omega), h1]; rfl
  have hm : mvTo (a.1 ++ [(ixOf (exN nodes az) a.2 : Int)]) = ixOf (exN nodes az) a.2 := by rw [mvTo, hg]; omega
  have hmem : a.2 ∈ exN nodes az := dd_mem (List.mem_map_of_mem ha)
  refine ⟨by simp [h1], by rw [hm]; exact ixOf_lt hmem, by rw [hg]; omega, a, ha, ?_, ?_⟩
  · rw [rdOf, List.take_append_of_le_length (by omega), List.take_of_length_le (by omega)]
  · rw [hm, List.getElem?_eq_getElem (ixOf_lt hmem)]
    congr 1
    exact List.getElem_idxOf (ixOf_lt hmem)
end
end Go.Proofs.YtiiiegflobihjaaGreat

/- A region that draws its order, within a round of a loop over a function: what is shown outside of rounds holds there, too. -/
namespace Go.Proofs.YtiiiegflobihjaaGreat
open Go.RowKit

theorem opIn_of_op {P : Program} {l0 : Nat} {o : Oper} {a : Act} {w : World} {K : Act → World → Prop} {Q : Exit → Act → World → Prop} (hd : ∀ c, o.op ≠ .defer c) (h : o.wp P a w K Q) :
    o.wpIn (Fence.wide.inRound l0) 0 P a w K Q := by
  refine ⟨fun _ _ => trivial, ?_⟩
  unfold Oper.wp at h
  rw [Oper.semAt_eq _ _ _ hd]
  generalize (execOp a.eval o).run P w = r at h ⊢
  have hdep : (Fence.wide.inRound l0).depth.isSome = true → 1 ≤ 0 := fun h => by simp [Fence.wide] at h
  cases r with
  | halt x w' => cases x <;> first | exact h | exact h.elim
  | ok nx w' =>
    cases nx with
    | enter f args => exact ⟨hdep, CallsIn.inRound l0 (callsIn_wide.2 h)⟩
    | row r args => exact ⟨hdep, fun c cs _ => by
        obtain ⟨v, w2, hr, hs⟩ := h c cs
        exact ⟨v, w2, hr, stepsIn_wide.2 hs⟩⟩
    | _ => first | exact h | exact h.elim

theorem anyIn_of_any {P : Program} {l0 : Nat} {md : Region.Mode} {ops : Array Oper} {Q : Exit → Act → World → Prop} (hnd : ∀ (i : Nat) o, ops[i]? = some o → ∀ c, o.op ≠ .defer c) (hQ : ¬ LetsOut Q) :
    ∀ (fuel : Nat) (listed : Array Bool) (a : Act) (w : World), wpAny P md ops Q fuel listed a w → wpAnyIn (Fence.wide.inRound l0) 0 P md ops Q fuel listed a w
  | 0, _, _, _, h => h
  | fuel + 1, listed, a, w, h => by
    refine ⟨h.1, fun i hi => ?_⟩
    have h1 := h.2 i hi
    unfold wpOp at h1
    unfold wpOpIn
    cases ho : ops[i]? with
    | none => rw [ho] at h1; exact anyIn_of_any hnd hQ fuel _ _ _ h1
    | some o =>
      rw [ho] at h1
      simp only at h1 ⊢
      by_cases hw : Region.wanted o (yielded ops a.tmps) = true
      · rw [if_pos hw] at h1 ⊢
        refine opIn_of_op (hnd i o ho) ?_
        exact Oper.wp_mono (fun a w hh => anyIn_of_any hnd hQ fuel _ a w hh) (h1.resolve_right (fun hh => hQ hh.2))
      · rw [if_neg hw] at h1 ⊢
        exact ⟨fun _ _ => trivial, anyIn_of_any hnd hQ fuel _ _ _ h1⟩

/-- No operation is a defer statement. -/
def noDefer (l : List Oper) : Bool := l.all fun o => match o.op with | .defer _ => false | _ => true
theorem noDefer_get {l : List Oper} (h : noDefer l = true) : ∀ (i : Nat) o, l.toArray[i]? = some o → ∀ c, o.op ≠ .defer c := by
  intro i o ho c hc
  have hm : o ∈ l := by rw [List.getElem?_toArray] at ho; exact List.mem_of_getElem? ho
  have := List.all_eq_true.1 h o hm
  rw [hc] at this
  cases this

/-- An operation that does nothing, in the place of another. -/
def mask (o : Oper) : Oper := { dst := none, op := .move (.const undef), type := o.type, pos := o.pos, after := o.after, guard := none }
def maskLast (n : Nat) (l : List Oper) : List Oper := l.take n ++ (l.drop n).map mask
/-- Operation n is the last, waits for all others, and every operation waits for earlier ones only. -/
def qtB (n : Nat) (l : List Oper) : Bool :=
  decide (l.length = n + 1) && Region.sinkB .any l.toArray n && (List.range l.length).all (fun i => match l[i]? with | some o => o.after.all fun e => decide (e.on < i) | none => true) &&
  Region.lexB .any (maskLast n l).toArray && ((l.drop n).all fun o => o.guard.isNone)

theorem maskLast_get {n : Nat} {l : List Oper} (i : Nat) : (maskLast n l)[i]? = if i < n then l[i]? else (l[i]?).map mask := by
  unfold maskLast
  by_cases h : i < (l.take n).length
  · rw [List.getElem?_append_left h]
    have : i < n := by rw [List.length_take] at h; omega
    rw [if_pos this, List.getElem?_take, if_pos this]
  · rw [List.getElem?_append_right (by omega), List.getElem?_map, List.getElem?_drop]
    rw [List.length_take] at h ⊢
    by_cases hi : i < n
    · rw [if_pos hi]
      have : l.length ≤ i := by omega
      rw [List.getElem?_eq_none (by omega : l.length ≤ n + (i - min n l.length)), List.getElem?_eq_none this]; rfl
    · rw [if_neg hi]
      by_cases hn : n ≤ l.length
      · rw [show n + (i - min n l.length) = i by omega]
      · rw [List.getElem?_eq_none (by omega : l.length ≤ n + (i - min n l.length)), List.getElem?_eq_none (by omega : l.length ≤ i)]
theorem maskLast_length (n : Nat) (l : List Oper) : (maskLast n l).length = l.length := by simp [maskLast]; omega
theorem ready_mask (md : Region.Mode) (n : Nat) (l : List Oper) (listed : Array Bool) : Region.ready md (maskLast n l).toArray listed = Region.ready md l.toArray listed := by
  unfold Region.ready
  simp only [List.size_toArray, maskLast_length, List.getElem?_toArray, maskLast_get]
  congr 1
  funext i
  by_cases h : i < n
  · rw [if_pos h]
  · rw [if_neg h]
    cases l[i]? <;> rfl

theorem wpQuiet_append {P : Program} {ops : Array Oper} {C : World → Prop} {Q : Act → Prop} : ∀ {l1 l2 : List Oper} {a : Act}, wpQuiet P ops C (fun a => wpQuiet P ops C Q l2 a) l1 a → wpQuiet P ops C Q (l1 ++ l2) a
  | [], _, _, h => h
  | o :: l1, l2, a, h => by
    rw [List.cons_append]
    unfold wpQuiet at h ⊢
    split
    · rename_i hw
      rw [if_pos hw] at h
      exact Oper.quiet_mono (fun a hh => wpQuiet_append hh) h
    · rename_i hw
      rw [if_neg hw] at h
      exact wpQuiet_append h

theorem wpQuiet_mono' {P : Program} {ops : Array Oper} {C : World → Prop} {Q Q' : Act → Prop} (hq : ∀ a, Q a → Q' a) : ∀ {l : List Oper} {a : Act}, wpQuiet P ops C Q l a → wpQuiet P ops C Q' l a
  | [], _, h => hq _ h
  | o :: l, a, h => by
    unfold wpQuiet at h ⊢
    split
    · rename_i hw
      rw [if_pos hw] at h
      exact Oper.quiet_mono (fun a hh => wpQuiet_mono' hq hh) h
    · rename_i hw
      rw [if_neg hw] at h
      exact wpQuiet_mono' hq h

theorem any_of_quiet_last {P : Program} {C : World → Prop} {Qa : Act → Prop} {Q : Exit → Act → World → Prop} {n : Nat} {l : List Oper} {last : Oper} (hlen : l.length = n + 1) (hlast : l[n]? = some last) (hg : last.guard = none)
    (hs : Region.sinkB .any l.toArray n = true) (hback : ∀ (i : Nat) (o : Oper), l[i]? = some o → ∀ e ∈ o.after, e.on < i)
    (hQ : ∀ a w, C w → Qa a → last.wp P a w (fun a w => Q .normal a w) Q) (hng : ∀ (i : Nat) (o : Oper), l[i]? = some o → ∀ tmps, Region.wanted o (yielded (maskLast n l).toArray tmps) = Region.wanted o (yielded l.toArray tmps)) :
    ∀ (fuel : Nat) (listed : Array Bool) (a : Act) (w : World), HeadInv .any l.toArray n listed → C w → wpAnyQ P .any (maskLast n l).toArray C Qa fuel listed a → 1 ≤ fuel → wpAny P .any l.toArray Q fuel listed a w
  | 0, _, _, _, _, _, _, h1 => absurd h1 (by omega)
  | fuel + 1, listed, a, w, inv, hC, h, _ => by
    have hc : Region.chainB .any l.toArray n = true := by
      refine List.all_eq_true.2 fun t ht => ?_
      rw [List.mem_range, List.size_toArray] at ht
      simp only [Bool.or_eq_true, decide_eq_true_eq]
      left; omega
    have hn : n < l.toArray.size := by simp; omega
    -- something is ready
    have hne : Region.ready .any l.toArray listed ≠ [] := by
      have key : ∀ k, k < l.length → listed.getD k true = false → ∃ j, j ∈ Region.ready .any l.toArray listed := by
        intro k
        induction k using Nat.strongRecOn with
        | _ k ih =>
          intro hk hun
          by_cases hall : ∀ e ∈ (l[k]'hk).after, Region.binds .any e = true → listed.getD e.on false = true
          · exact ⟨k, mem_ready.2 ⟨hun, l[k], by rw [List.getElem?_toArray, List.getElem?_eq_getElem hk], hall⟩⟩
          · obtain ⟨e, he⟩ := Classical.not_forall.1 hall
            obtain ⟨he1, he2⟩ := Classical.not_imp.1 he
            obtain ⟨_, he3⟩ := Classical.not_imp.1 he2
            have hlt := hback k l[k] (List.getElem?_eq_getElem hk) e he1
            have hsz : e.on < listed.size := by rw [inv.size]; simp; omega
            exact ih e.on hlt (by omega) (getD_in hsz (by simpa using he3))
      obtain ⟨j, hj⟩ := key n (by omega) (inv.tail n (Nat.le_refl _) hn)
      intro h0
      rw [h0] at hj; cases hj
    refine ⟨fun h0 => absurd h0 hne, fun i hi => ?_⟩
    have hi' : i ∈ Region.ready .any (maskLast n l).toArray listed := by rw [ready_mask]; exact hi
    have hq := h.2 i hi'
    obtain ⟨hiun, oi, hoi, _⟩ := mem_ready.1 hi
    have hilt : i < l.length := by have := (Array.getElem?_eq_some_iff.1 hoi).1; simpa using this
    by_cases hin : i < n
    · have hoi' : (maskLast n l).toArray[i]? = some oi := by rw [List.getElem?_toArray, maskLast_get, if_pos hin, ← List.getElem?_toArray]; exact hoi
      have hq2 : qOp P l.toArray C i (wpAnyQ P .any (maskLast n l).toArray C Qa fuel (listed.setIfInBounds i true)) a := by
        unfold qOp at hq ⊢
        rw [hoi'] at hq
        rw [hoi]
        simp only at hq ⊢
        rw [hng i oi (by simpa using hoi)] at hq
        exact hq
      have hf : 1 ≤ fuel := by
        cases fuel with
        | succ f => omega
        | zero =>
          obtain ⟨v, hy, hK⟩ := yieldsIn_of_qOp hoi hq2
          have hnr := hK.1
          rw [ready_mask] at hnr
          have inv2 := inv.set hi hin
          have key : ∀ k, k < l.length → (listed.setIfInBounds i true).getD k true = false → ∃ j, j ∈ Region.ready .any l.toArray (listed.setIfInBounds i true) := by
            intro k
            induction k using Nat.strongRecOn with
            | _ k ih =>
              intro hk hun
              by_cases hall : ∀ e ∈ (l[k]'hk).after, Region.binds .any e = true → (listed.setIfInBounds i true).getD e.on false = true
              · exact ⟨k, mem_ready.2 ⟨hun, l[k], by rw [List.getElem?_toArray, List.getElem?_eq_getElem hk], hall⟩⟩
              · obtain ⟨e, he⟩ := Classical.not_forall.1 hall
                obtain ⟨he1, he2⟩ := Classical.not_imp.1 he
                obtain ⟨_, he3⟩ := Classical.not_imp.1 he2
                have hlt := hback k l[k] (List.getElem?_eq_getElem hk) e he1
                have hsz : e.on < (listed.setIfInBounds i true).size := by rw [inv2.size]; simp; omega
                exact ih e.on hlt (by omega) (getD_in hsz (by simpa using he3))
          obtain ⟨j, hj⟩ := key n (by omega) (inv2.tail n (Nat.le_refl _) hn)
          rw [hnr] at hj; cases hj
      exact wpOp_of_qOp hC (fun a' w' hC' hK => any_of_quiet_last hlen hlast hg hs hback hQ hng fuel _ a' w' (inv.set hi hin) hC' hK hf) hq2
    · obtain rfl : i = n := by omega
      have hol : oi = last := by
        rw [List.getElem?_toArray, hlast] at hoi
        exact (Option.some.inj hoi).symm
      subst hol
      -- all others are listed
      have hall : ∀ j, j < i → listed.getD j true = true := by
        intro j hj
        cases hb : listed.getD j true with
        | true => rfl
        | false => exact absurd hi (tail_waits hs hc hn inv _ j rfl hj hb i (Nat.le_refl _))
      have hend : Region.ready .any l.toArray (listed.setIfInBounds i true) = [] := by
        cases hR : Region.ready .any l.toArray (listed.setIfInBounds i true) with
        | nil => rfl
        | cons j r =>
          have hj : j ∈ Region.ready .any l.toArray (listed.setIfInBounds i true) := by rw [hR]; simp
          obtain ⟨hjun, oj, hoj, _⟩ := mem_ready.1 hj
          have hjlt : j < l.length := by have := (Array.getElem?_eq_some_iff.1 hoj).1; simpa using this
          by_cases hji : i = j
          · subst hji
            have : i < listed.size := by rw [inv.size]; simpa using hilt
            simp [this] at hjun
          · rw [getD_set_ne true hji] at hjun
            rw [hall j (by omega)] at hjun; cases hjun
      have hKa : Qa a := by
        unfold qOp at hq
        have hml : (maskLast i l).toArray[i]? = some (mask oi) := by rw [List.getElem?_toArray, maskLast_get, if_neg (by omega), hlast]; rfl
        rw [hml] at hq
        simp only [Region.wanted, mask, if_true] at hq
        obtain ⟨v, _, hK⟩ := hq
        have hK' : wpAnyQ P .any (maskLast i l).toArray C Qa fuel (listed.setIfInBounds i true) a := hK
        cases fuel with
        | zero => exact hK'.2
        | succ f => exact hK'.1 (by rw [ready_mask]; exact hend)
      unfold wpOp
      rw [hoi]
      simp only [Region.wanted, hg, if_true]
      refine .inl (Oper.wp_mono (fun a' w' hh => ?_) (hQ a w hC hKa))
      cases fuel with
      | zero => exact ⟨hend, hh⟩
      | succ f => exact ⟨fun _ => hh, fun j hj => by rw [hend] at hj; cases hj⟩

/-- No operation is guarded. -/
def noGuard (l : List Oper) : Bool := l.all fun o => o.guard.isNone
theorem noGuard_get {l : List Oper} (h : noGuard l = true) {i : Nat} {o : Oper} (ho : l[i]? = some o) : o.guard = none := by
  have := List.all_eq_true.1 h o (List.mem_of_getElem? ho)
  simpa using this

/-- Reads and calls that draw at most, ahead of one last operation: any order. -/
theorem any_qtail {P : Program} {Q : Exit → Act → World → Prop} {a : Act} {w : World} {l : List Oper} (n : Nat) (hB : qtB n l = true) (hg : noGuard l = true)
    (h : wpQuiet P (maskLast n l).toArray (fun w' => ∃ k, w' = w.drewN k) (fun a' => ∀ k, wpList P l.toArray Q (l.drop n) a' (w.drewN k)) (l.take n) a) (hQ : ¬ LetsOut Q) :
    wpAny P .any l.toArray Q l.toArray.size (Array.replicate l.toArray.size false) a w.drew := by
  simp only [qtB, Bool.and_eq_true, decide_eq_true_eq] at hB
  obtain ⟨⟨⟨⟨hlen, hs⟩, hb⟩, hlex⟩, _⟩ := hB
  have hback : ∀ (i : Nat) (o : Oper), l[i]? = some o → ∀ e ∈ o.after, e.on < i := by
    intro i o ho e he
    have := List.all_eq_true.1 hb i (List.mem_range.2 (List.getElem?_eq_some_iff.1 ho).1)
    rw [ho] at this
    simp only at this
    exact of_decide_eq_true (Array.all_eq_true'.1 this e he)
  have hlt : n < l.length := by omega
  have hlast : l[n]? = some l[n] := List.getElem?_eq_getElem hlt
  have hdrop : l.drop n = [l[n]] := by rw [List.drop_eq_getElem_cons hlt, List.drop_eq_nil_of_le (by omega)]
  have hgl : l[n].guard = none := noGuard_get hg hlast
  have start : HeadInv .any l.toArray n (Array.replicate l.toArray.size false) :=
    ⟨by simp, fun j oj _ hh => (by rw [getD_replicate_false] at hh; cases hh), fun t _ ht => getD_in (by simpa using ht) (getD_replicate_false _ _)⟩
  refine any_of_quiet_last (C := fun w' => ∃ k, w' = w.drewN k) (Qa := fun a' => ∀ k, wpList P l.toArray Q (l.drop n) a' (w.drewN k)) hlen hlast hgl hs hback ?_ ?_ _ _ _ _ start ⟨1, rfl⟩ ?_ (by simp; omega)
  · rintro a w' ⟨k, rfl⟩ hh
    have h1 := hh k
    rw [hdrop] at h1
    unfold wpList at h1
    rw [if_pos (by simp [Region.wanted, hgl])] at h1
    exact Oper.wp_mono (fun a w hh => hh) (h1.resolve_right (fun hh => hQ hh.2))
  · intro i o ho tmps
    simp [Region.wanted, noGuard_get hg ho]
  · simp only [Region.lexB, Bool.and_eq_true] at hlex
    have hml : (maskLast n l) = l.take n ++ [mask l[n]] := by rw [maskLast, hdrop]; rfl
    have hw : wpQuiet P (maskLast n l).toArray (fun w' => ∃ k, w' = w.drewN k) (fun a' => ∀ k, wpList P l.toArray Q (l.drop n) a' (w.drewN k)) (maskLast n l) a := by
      conv => arg 5; rw [hml]
      refine wpQuiet_append ?_
      refine wpQuiet_mono' ?_ h
      intro a' hh
      unfold wpQuiet
      rw [if_pos (by simp [Region.wanted, mask])]
      exact ⟨undef, fun w' _ => ⟨rfl, rfl⟩, hh⟩
    have := wpAnyQ_lex (C := fun w' => ∃ k, w' = w.drewN k) (md := .any) hlex.1 (maskLast n l) 0 (Array.replicate (maskLast n l).toArray.size false) a (by simp) (by simpa using hlex.2) hw
    simpa [maskLast_length] using this

theorem wpIn_region_qtail {P : Program} {l0 id : Nat} {Q : Exit → Act → World → Prop} {a : Act} {w : World} {l : List Oper} (n : Nat) (hm : P.follows .mixedOrders = true) (hB : qtB n l = true) (hg : noGuard l = true)
    (hd : noDefer l = true) (hQ : ¬ LetsOut Q) (h : ∀ ops', wpQuiet P ops' (fun w' => ∃ k, w' = w.drewN k) (fun a' => ∀ k, wpList P l.toArray Q (l.drop n) a' (w.drewN k)) (l.take n) a) :
    (Code.region id l.toArray true).wpIn (Fence.wide.inRound l0) 0 P Q a w :=
  wpIn_region_any hm (anyIn_of_any (noDefer_get hd) hQ _ _ _ _ (any_qtail n hB hg (h _) hQ))
end Go.Proofs.YtiiiegflobihjaaGreat

/- Adversaries: Few and move of the reference. -/
namespace Go.Proofs.YtiiiegflobihjaaGreat
open Go.RowKit

/-- The error of move i of a state. -/
def mvErr (n : Int) (len : Nat) (ms : List (List Int)) (i : Nat) : Int :=
  if chkRd ((ms.getD i []).take 7) ≠ 0 then chkRd ((ms.getD i []).take 7) else if (ms.getD i []).getD 0 0 ≠ n then 22
  else if 0 < i ∧ 0 ≤ cmpL ((ms.getD (i - 1) []).take 7) ((ms.getD i []).take 7) then 14 else if (ms.getD i []).getD 7 0 < 0 ∨ (len : Int) ≤ (ms.getD i []).getD 7 0 then 2 else 0
theorem mvErr_1 {n : Int} {len : Nat} {ms : List (List Int)} {i : Nat} {x : List Int} (hx : ms.getD i [] = x) (h : chkRd (x.take 7) ≠ 0) : mvErr n len ms i = chkRd (x.take 7) := by rw [mvErr, hx, if_pos h]
theorem mvErr_2 {n : Int} {len : Nat} {ms : List (List Int)} {i : Nat} {x : List Int} (hx : ms.getD i [] = x) (h : chkRd (x.take 7) = 0) (h2 : x.getD 0 0 ≠ n) : mvErr n len ms i = 22 := by rw [mvErr, hx, if_neg (fun k => k h), if_pos h2]
theorem mvErr_3 {n : Int} {len : Nat} {ms : List (List Int)} {i : Nat} {x y : List Int} (hx : ms.getD i [] = x) (hy : ms.getD (i - 1) [] = y) (h : chkRd (x.take 7) = 0) (h2 : x.getD 0 0 = n) (hi : 0 < i) (h3 : 0 ≤ cmpL (y.take 7) (x.take 7)) : mvErr n len ms i = 14 := by
  rw [mvErr, hx, hy, if_neg (fun k => k h), if_neg (fun k => k h2), if_pos ⟨hi, h3⟩]
theorem mvErr_4 {n : Int} {len : Nat} {ms : List (List Int)} {i : Nat} {x : List Int} (hx : ms.getD i [] = x) (h : chkRd (x.take 7) = 0) (h2 : x.getD 0 0 = n) (h3 : ¬ (0 < i ∧ 0 ≤ cmpL ((ms.getD (i - 1) []).take 7) (x.take 7))) (h4 : x.getD 7 0 < 0 ∨ (len : Int) ≤ x.getD 7 0) : mvErr n len ms i = 2 := by
  rw [mvErr, hx, if_neg (fun k => k h), if_neg (fun k => k h2), if_neg h3, if_pos h4]
theorem mvErr_5 {n : Int} {len : Nat} {ms : List (List Int)} {i : Nat} {x : List Int} (hx : ms.getD i [] = x) (h : chkRd (x.take 7) = 0) (h2 : x.getD 0 0 = n) (h3 : ¬ (0 < i ∧ 0 ≤ cmpL ((ms.getD (i - 1) []).take 7) (x.take 7))) (h4 : ¬ (x.getD 7 0 < 0 ∨ (len : Int) ≤ x.getD 7 0)) : mvErr n len ms i = 0 := by
  rw [mvErr, hx, if_neg (fun k => k h), if_neg (fun k => k h2), if_neg h3, if_neg h4]

def fewA (ss : List (List (List Int))) : Bool := decide (ss.length ≤ 8) && decide (movesN ss ≤ 40)
set_option maxRecDepth 100000 in
theorem refFew {w : World} {v : Value} {n : Int} {ss : List (List (List Int))} (h : AdvV w v n ss) : Calls Tryz.prog 8 #[v] w fun e w' => e = .returned (.bool (fewA ss)) ∧ Below w.heap.size w w' := by
  have h0 := h
  obtain ⟨sv, rfl, a, c, b, off, rfl, ha, hc, _⟩ := h
  have hb := (Below.refl w.heap.size w).alloc (Nat.le_refl _) (.cells #[.int .i64 n, .slice a ss.length c] 24)
  by_cases h8 : ss.length ≤ 8
  · have HM := Lib.hid (refMoves (h0.keep hb) (by omega))
    have e := Lib.hid (show fewA ss = decide (movesN ss ≤ 40) by simp [fewA, h8])
    obtain ⟨m, hm⟩ : ∃ m, movesN ss = m := ⟨_, rfl⟩
    rw [hm] at HM e
    have h8' : decide ((ss.length : Int) ≤ 8) = true := decide_eq_true (by omega)
    clear ha hc hm h0
    go_enter Tryz.func8, Tryz.ntmps8
    go_wp2_with fail
    refine HM.out.mono ?_; rintro e1 w1 ⟨rfl, hb1⟩
    go_wp2
    go_ret
    exact ⟨ret_bool (by rw [e.out]; norm_cast), bt hb hb1 hb.size⟩
  · have e := Lib.hid (show fewA ss = false by simp [fewA, h8])
    have h8' : decide ((ss.length : Int) ≤ 8) = false := decide_eq_false (by omega)
    clear ha hc h0
    go_enter Tryz.func8, Tryz.ntmps8
    go_wp2
    go_ret
    exact ⟨ret_bool e.out.symm, hb⟩

theorem below_of_drew {w w' : World} (h : Below w.drew.heap.size w.drew w') : Below w.heap.size w w' := ((Below.refl _ w).drew).trans h
set_option maxRecDepth 100000 in
set_option maxHeartbeats 6400000 in
theorem refMove {w : World} {v mv : Value} {n : Int} {ss : List (List (List Int))} {ms : List (List Int)} {i : Nat} (hA : AdvV w v n ss) (hM : KS 8 w mv ms) (hi : i < ms.length) (_hl : ss.length ≤ 256) :
    Calls Tryz.prog 85 #[v, mv, .int .i64 i] w fun e w' => e = .returned (.int .i64 (mvErr n ss.length ms i)) ∧ Below w.heap.size w w' := by
  obtain ⟨sv, rfl, sa, sc, sb, so, rfl, hsa, hsc, _⟩ := hA
  obtain ⟨ma, mc, mb, mo, rfl, hma, hmc, hml⟩ := hM
  obtain rfl := hma (by omega)
  clear hma hsa hsc
  obtain ⟨hx8, hxc⟩ := hmc i hi
  obtain ⟨x, hx⟩ : ∃ x, ms.getD i [] = x := ⟨_, rfl⟩
  rw [hx] at hx8 hxc
  obtain ⟨y0, y1, y2, y3, y4, y5, y6, y7, rfl⟩ := eight hx8
  clear hx8
  have hb := (Below.refl w.heap.size w).alloc (Nat.le_refl _) (.cells #[.int .i64 n, .slice sa ss.length sc] 24)
  have hb2 := hb.alloc hb.size (.cells #[.int .i64 y0, .int .i64 y1, .int .i64 y2, .int .i64 y3, .int .i64 y4, .int .i64 y5, .int .i64 y6] 51)
  have hs0 : ((w.alloc (.cells #[.int .i64 n, .slice sa ss.length sc] 24)).alloc (.cells #[.int .i64 y0, .int .i64 y1, .int .i64 y2, .int .i64 y3, .int .i64 y4, .int .i64 y5, .int .i64 y6] 51)).heap[w.heap.size]? = some (.cells #[.int .i64 n, .slice sa ss.length sc] 24) := (Below.heap_alloc _ _ _ (by simp)).trans (heap_alloc_new w _)
  have hs1 : ((w.alloc (.cells #[.int .i64 n, .slice sa ss.length sc] 24)).alloc (.cells #[.int .i64 y0, .int .i64 y1, .int .i64 y2, .int .i64 y3, .int .i64 y4, .int .i64 y5, .int .i64 y6] 51)).heap[w.heap.size + 1]? = some (.cells #[.int .i64 y0, .int .i64 y1, .int .i64 y2, .int .i64 y3, .int .i64 y4, .int .i64 y5, .int .i64 y6] 51) := by
    have := heap_alloc_new (w.alloc (.cells #[.int .i64 n, .slice sa ss.length sc] 24)) (.cells #[.int .i64 y0, .int .i64 y1, .int .i64 y2, .int .i64 y3, .int .i64 y4, .int .i64 y5, .int .i64 y6] 51); rwa [World.size_alloc] at this
  replace hs0 := Lib.hid hs0; replace hs1 := Lib.hid hs1
  obtain ⟨c0, c1, c2, c3, c4, c5, c6, _⟩ := (hxc.keep hb).all8
  replace hxc := Lib.hid hxc
  obtain ⟨E, hE⟩ : ∃ E, chkRd [y0, y1, y2, y3, y4, y5, y6] = E := ⟨_, rfl⟩
  have HC := fun W => refRoundCheck y0 y1 y2 y3 y4 y5 y6 W
  rw [hE] at HC
  replace HC := Lib.hid HC
  replace hE := Lib.hid hE
  replace hx := Lib.hid hx
  by_cases hz : E = 0
  · subst hz
    by_cases hn : y0 = n
    · have hn' : (y0 != n) = false := by simp [hn]
      replace hn := Lib.hid hn
      by_cases hi0 : 0 < i
      · have hi1 : decide (0 < i) = true := decide_eq_true hi0
        obtain ⟨hy8, hyc⟩ := hmc (i - 1) (by omega)
        obtain ⟨y, hy⟩ : ∃ y, ms.getD (i - 1) [] = y := ⟨_, rfl⟩
        rw [hy] at hy8 hyc
        obtain ⟨z0, z1, z2, z3, z4, z5, z6, z7, rfl⟩ := eight hy8
        clear hy8 hmc
        obtain ⟨j, rfl⟩ : ∃ j, i = j + 1 := ⟨i - 1, by omega⟩
        rw [Nat.add_sub_cancel] at hyc hy
        replace hyc := Lib.hid hyc
        have HM := fun W => refRoundCompare z0 z1 z2 z3 z4 z5 z6 y0 y1 y2 y3 y4 y5 y6 W
        obtain ⟨C, hC⟩ : ∃ C, cmpL [z0, z1, z2, z3, z4, z5, z6] [y0, y1, y2, y3, y4, y5, y6] = C := ⟨_, rfl⟩
        rw [hC] at HM
        replace HM := Lib.hid HM
        replace hC := Lib.hid hC
        replace hy := Lib.hid hy
        by_cases hCz : 0 ≤ C
        · have hC1 : decide (0 ≤ C) = true := decide_eq_true hCz
          replace hCz := Lib.hid hCz
          go_enter Tryz.func85, Tryz.ntmps85
          go_wp2_with fail
          refine (HC.out _).mono ?_; rintro e w1 ⟨rfl, hb1⟩
          have k0 := (hb1.block _ (by simp; omega)).trans hs0.out
          have k1 := (hb1.block _ (by simp)).trans hs1.out
          have bw := bt hb2 hb1 hb2.size
          clear c0 c1 c2 c3 c4 c5 c6 hs0 hs1
          have d0 : w1.cell? ⟨w.heap.size, 0, none⟩ = some (.int .i64 n) := by rw [cell_of_row _ _ 0 _ _ _ k0]; rfl
          have d1 : w1.cell? ⟨w.heap.size, 1, none⟩ = some (.slice sa ss.length sc) := by rw [cell_of_row _ _ 1 _ _ _ k0]; rfl
          have r0 : w1.cell? ⟨w.heap.size + 1, 0, none⟩ = some (.int .i64 y0) := by rw [cell_of_row _ _ 0 _ _ _ k1]; rfl
          have r1 : w1.cell? ⟨w.heap.size + 1, 1, none⟩ = some (.int .i64 y1) := by rw [cell_of_row _ _ 1 _ _ _ k1]; rfl
          have r2 : w1.cell? ⟨w.heap.size + 1, 2, none⟩ = some (.int .i64 y2) := by rw [cell_of_row _ _ 2 _ _ _ k1]; rfl
          have r3 : w1.cell? ⟨w.heap.size + 1, 3, none⟩ = some (.int .i64 y3) := by rw [cell_of_row _ _ 3 _ _ _ k1]; rfl
          have r4 : w1.cell? ⟨w.heap.size + 1, 4, none⟩ = some (.int .i64 y4) := by rw [cell_of_row _ _ 4 _ _ _ k1]; rfl
          have r5 : w1.cell? ⟨w.heap.size + 1, 5, none⟩ = some (.int .i64 y5) := by rw [cell_of_row _ _ 5 _ _ _ k1]; rfl
          have r6 : w1.cell? ⟨w.heap.size + 1, 6, none⟩ = some (.int .i64 y6) := by rw [cell_of_row _ _ 6 _ _ _ k1]; rfl
          obtain ⟨e0, e1, e2, e3, e4, e5, e6, _⟩ := ((hyc.out.keep (bt hb2 hb1 hb2.size))).all8
          have hwr : IntKind.i64.wrap (j : Int) = (j : Int) := IntWalk.i64_in _ (by omega)
          have hj0 : (0 : Int) ≤ (j : Int) := Int.natCast_nonneg _
          have hj1 : (j : Int) < (ms.length : Int) := by omega
          go_wp2
          go_still_tail 10, (by kernel_rfl)
          change wpList _ _ _ _ _ w1.drew
          clear hwr
          go_wp2_with fail
          refine (HM.out _).mono ?_; rintro e w2 ⟨rfl, hb3⟩
          replace hb3 := below_of_drew hb3
          have b2 := bt bw hb3 bw.size
          clear e0 e1 e2 e3 e4 e5 e6
          go_wp2
          go_ret
          exact ⟨ret_int (mvErr_3 (y := [z0, z1, z2, z3, z4, z5, z6, z7]) hx.out (by rw [Nat.add_sub_cancel]; exact hy.out) hE.out hn.out (by omega) (by show 0 ≤ cmpL [z0, z1, z2, z3, z4, z5, z6] [y0, y1, y2, y3, y4, y5, y6]; rw [hC.out]; exact hCz.out)).symm, b2⟩
        · have hC1 : decide (0 ≤ C) = false := decide_eq_false hCz
          have h3 : Hid (¬ (0 < j + 1 ∧ 0 ≤ cmpL ((ms.getD (j + 1 - 1) []).take 7) ([y0, y1, y2, y3, y4, y5, y6, y7].take 7))) := fun k => by
            have k2 := k.2
            rw [Nat.add_sub_cancel, hy.out] at k2
            have k3 : 0 ≤ cmpL [z0, z1, z2, z3, z4, z5, z6] [y0, y1, y2, y3, y4, y5, y6] := k2
            rw [hC.out] at k3
            exact hCz k3
          clear hCz
          by_cases q1 : y7 < 0
          · have q1' : decide (y7 < 0) = true := decide_eq_true q1
            have q := Lib.hid (show y7 < 0 ∨ (ss.length : Int) ≤ y7 from .inl q1)
            clear q1
            go_enter Tryz.func85, Tryz.ntmps85
            go_wp2_with fail
            refine (HC.out _).mono ?_; rintro e w1 ⟨rfl, hb1⟩
            have k0 := (hb1.block _ (by simp; omega)).trans hs0.out
            have k1 := (hb1.block _ (by simp)).trans hs1.out
            have bw := bt hb2 hb1 hb2.size
            clear c0 c1 c2 c3 c4 c5 c6 hs0 hs1
            have d0 : w1.cell? ⟨w.heap.size, 0, none⟩ = some (.int .i64 n) := by rw [cell_of_row _ _ 0 _ _ _ k0]; rfl
            have d1 : w1.cell? ⟨w.heap.size, 1, none⟩ = some (.slice sa ss.length sc) := by rw [cell_of_row _ _ 1 _ _ _ k0]; rfl
            have r0 : w1.cell? ⟨w.heap.size + 1, 0, none⟩ = some (.int .i64 y0) := by rw [cell_of_row _ _ 0 _ _ _ k1]; rfl
            have r1 : w1.cell? ⟨w.heap.size + 1, 1, none⟩ = some (.int .i64 y1) := by rw [cell_of_row _ _ 1 _ _ _ k1]; rfl
            have r2 : w1.cell? ⟨w.heap.size + 1, 2, none⟩ = some (.int .i64 y2) := by rw [cell_of_row _ _ 2 _ _ _ k1]; rfl
            have r3 : w1.cell? ⟨w.heap.size + 1, 3, none⟩ = some (.int .i64 y3) := by rw [cell_of_row _ _ 3 _ _ _ k1]; rfl
            have r4 : w1.cell? ⟨w.heap.size + 1, 4, none⟩ = some (.int .i64 y4) := by rw [cell_of_row _ _ 4 _ _ _ k1]; rfl
            have r5 : w1.cell? ⟨w.heap.size + 1, 5, none⟩ = some (.int .i64 y5) := by rw [cell_of_row _ _ 5 _ _ _ k1]; rfl
            have r6 : w1.cell? ⟨w.heap.size + 1, 6, none⟩ = some (.int .i64 y6) := by rw [cell_of_row _ _ 6 _ _ _ k1]; rfl
            obtain ⟨e0, e1, e2, e3, e4, e5, e6, _⟩ := ((hyc.out.keep (bt hb2 hb1 hb2.size))).all8
            have hwr : IntKind.i64.wrap (j : Int) = (j : Int) := IntWalk.i64_in _ (by omega)
            have hj0 : (0 : Int) ≤ (j : Int) := Int.natCast_nonneg _
            have hj1 : (j : Int) < (ms.length : Int) := by omega
            go_wp2
            go_still_tail 10, (by kernel_rfl)
            change wpList _ _ _ _ _ w1.drew
            clear hwr
            go_wp2_with fail
            refine (HM.out _).mono ?_; rintro e w2 ⟨rfl, hb3⟩
            replace hb3 := below_of_drew hb3
            have b2 := bt bw hb3 bw.size
            clear e0 e1 e2 e3 e4 e5 e6
            have k2 := (hb3.block _ (Array.getElem?_eq_some_iff.1 k0).1).trans k0
            have d2 : w2.cell? ⟨w.heap.size, 1, none⟩ = some (.slice sa ss.length sc) := by rw [cell_of_row _ _ 1 _ _ _ k2]; rfl
            obtain ⟨_, _, _, _, _, _, _, e7⟩ := (hxc.out.keep b2).all8
            go_wp2
            go_quiet (fail)
            go_wp2
            go_ret
            exact ⟨ret_int (mvErr_4 hx.out hE.out hn.out h3.out q.out).symm, below_drewN b2 _⟩
          · have q1' : decide (y7 < 0) = false := decide_eq_false q1
            by_cases q2 : (ss.length : Int) ≤ y7
            · have q2' : decide ((ss.length : Int) ≤ y7) = true := decide_eq_true q2
              have q := Lib.hid (show y7 < 0 ∨ (ss.length : Int) ≤ y7 from .inr q2)
              clear q1 q2
              go_enter Tryz.func85, Tryz.ntmps85
              go_wp2_with fail
              refine (HC.out _).mono ?_; rintro e w1 ⟨rfl, hb1⟩
              have k0 := (hb1.block _ (by simp; omega)).trans hs0.out
              have k1 := (hb1.block _ (by simp)).trans hs1.out
              have bw := bt hb2 hb1 hb2.size
              clear c0 c1 c2 c3 c4 c5 c6 hs0 hs1
              have d0 : w1.cell? ⟨w.heap.size, 0, none⟩ = some (.int .i64 n) := by rw [cell_of_row _ _ 0 _ _ _ k0]; rfl
              have d1 : w1.cell? ⟨w.heap.size, 1, none⟩ = some (.slice sa ss.length sc) := by rw [cell_of_row _ _ 1 _ _ _ k0]; rfl
              have r0 : w1.cell? ⟨w.heap.size + 1, 0, none⟩ = some (.int .i64 y0) := by rw [cell_of_row _ _ 0 _ _ _ k1]; rfl
              have r1 : w1.cell? ⟨w.heap.size + 1, 1, none⟩ = some (.int .i64 y1) := by rw [cell_of_row _ _ 1 _ _ _ k1]; rfl
              have r2 : w1.cell? ⟨w.heap.size + 1, 2, none⟩ = some (.int .i64 y2) := by rw [cell_of_row _ _ 2 _ _ _ k1]; rfl
              have r3 : w1.cell? ⟨w.heap.size + 1, 3, none⟩ = some (.int .i64 y3) := by rw [cell_of_row _ _ 3 _ _ _ k1]; rfl
              have r4 : w1.cell? ⟨w.heap.size + 1, 4, none⟩ = some (.int .i64 y4) := by rw [cell_of_row _ _ 4 _ _ _ k1]; rfl
              have r5 : w1.cell? ⟨w.heap.size + 1, 5, none⟩ = some (.int .i64 y5) := by rw [cell_of_row _ _ 5 _ _ _ k1]; rfl
              have r6 : w1.cell? ⟨w.heap.size + 1, 6, none⟩ = some (.int .i64 y6) := by rw [cell_of_row _ _ 6 _ _ _ k1]; rfl
              obtain ⟨e0, e1, e2, e3, e4, e5, e6, _⟩ := ((hyc.out.keep (bt hb2 hb1 hb2.size))).all8
              have hwr : IntKind.i64.wrap (j : Int) = (j : Int) := IntWalk.i64_in _ (by omega)
              have hj0 : (0 : Int) ≤ (j : Int) := Int.natCast_nonneg _
              have hj1 : (j : Int) < (ms.length : Int) := by omega
              go_wp2
              go_still_tail 10, (by kernel_rfl)
              change wpList _ _ _ _ _ w1.drew
              clear hwr
              go_wp2_with fail
              refine (HM.out _).mono ?_; rintro e w2 ⟨rfl, hb3⟩
              replace hb3 := below_of_drew hb3
              have b2 := bt bw hb3 bw.size
              clear e0 e1 e2 e3 e4 e5 e6
              have k2 := (hb3.block _ (Array.getElem?_eq_some_iff.1 k0).1).trans k0
              have d2 : w2.cell? ⟨w.heap.size, 1, none⟩ = some (.slice sa ss.length sc) := by rw [cell_of_row _ _ 1 _ _ _ k2]; rfl
              obtain ⟨_, _, _, _, _, _, _, e7⟩ := (hxc.out.keep b2).all8
              go_wp2
              go_quiet (fail)
              go_wp2
              go_ret
              exact ⟨ret_int (mvErr_4 hx.out hE.out hn.out h3.out q.out).symm, below_drewN b2 _⟩
            · have q2' : decide ((ss.length : Int) ≤ y7) = false := decide_eq_false q2
              have q := Lib.hid (show ¬ (y7 < 0 ∨ (ss.length : Int) ≤ y7) by omega)
              clear q1 q2
              go_enter Tryz.func85, Tryz.ntmps85
              go_wp2_with fail
              refine (HC.out _).mono ?_; rintro e w1 ⟨rfl, hb1⟩
              have k0 := (hb1.block _ (by simp; omega)).trans hs0.out
              have k1 := (hb1.block _ (by simp)).trans hs1.out
              have bw := bt hb2 hb1 hb2.size
              clear c0 c1 c2 c3 c4 c5 c6 hs0 hs1
              have d0 : w1.cell? ⟨w.heap.size, 0, none⟩ = some (.int .i64 n) := by rw [cell_of_row _ _ 0 _ _ _ k0]; rfl
              have d1 : w1.cell? ⟨w.heap.size, 1, none⟩ = some (.slice sa ss.length sc) := by rw [cell_of_row _ _ 1 _ _ _ k0]; rfl
              have r0 : w1.cell? ⟨w.heap.size + 1, 0, none⟩ = some (.int .i64 y0) := by rw [cell_of_row _ _ 0 _ _ _ k1]; rfl
              have r1 : w1.cell? ⟨w.heap.size + 1, 1, none⟩ = some (.int .i64 y1) := by rw [cell_of_row _ _ 1 _ _ _ k1]; rfl
              have r2 : w1.cell? ⟨w.heap.size + 1, 2, none⟩ = some (.int .i64 y2) := by rw [cell_of_row _ _ 2 _ _ _ k1]; rfl
              have r3 : w1.cell? ⟨w.heap.size + 1, 3, none⟩ = some (.int .i64 y3) := by rw [cell_of_row _ _ 3 _ _ _ k1]; rfl
              have r4 : w1.cell? ⟨w.heap.size + 1, 4, none⟩ = some (.int .i64 y4) := by rw [cell_of_row _ _ 4 _ _ _ k1]; rfl
              have r5 : w1.cell? ⟨w.heap.size + 1, 5, none⟩ = some (.int .i64 y5) := by rw [cell_of_row _ _ 5 _ _ _ k1]; rfl
              have r6 : w1.cell? ⟨w.heap.size + 1, 6, none⟩ = some (.int .i64 y6) := by rw [cell_of_row _ _ 6 _ _ _ k1]; rfl
              obtain ⟨e0, e1, e2, e3, e4, e5, e6, _⟩ := ((hyc.out.keep (bt hb2 hb1 hb2.size))).all8
              have hwr : IntKind.i64.wrap (j : Int) = (j : Int) := IntWalk.i64_in _ (by omega)
              have hj0 : (0 : Int) ≤ (j : Int) := Int.natCast_nonneg _
              have hj1 : (j : Int) < (ms.length : Int) := by omega
              go_wp2
              go_still_tail 10, (by kernel_rfl)
              change wpList _ _ _ _ _ w1.drew
              clear hwr
              go_wp2_with fail
              refine (HM.out _).mono ?_; rintro e w2 ⟨rfl, hb3⟩
              replace hb3 := below_of_drew hb3
              have b2 := bt bw hb3 bw.size
              clear e0 e1 e2 e3 e4 e5 e6
              have k2 := (hb3.block _ (Array.getElem?_eq_some_iff.1 k0).1).trans k0
              have d2 : w2.cell? ⟨w.heap.size, 1, none⟩ = some (.slice sa ss.length sc) := by rw [cell_of_row _ _ 1 _ _ _ k2]; rfl
              obtain ⟨_, _, _, _, _, _, _, e7⟩ := (hxc.out.keep b2).all8
              go_wp2
              go_quiet (fail)
              go_wp2
              go_ret
              exact ⟨ret_int (mvErr_5 hx.out hE.out hn.out h3.out (by have := q.out; show ¬ (y7 < 0 ∨ (ss.length : Int) ≤ y7); omega)).symm, below_drewN b2 _⟩
      · have h3 : Hid (¬ (0 < i ∧ 0 ≤ cmpL ((ms.getD (i - 1) []).take 7) ([y0, y1, y2, y3, y4, y5, y6, y7].take 7))) := fun k => hi0 k.1
        have hi1 : decide (0 < i) = false := decide_eq_false hi0
        clear hi0 hmc
        by_cases q1 : y7 < 0
        · have q1' : decide (y7 < 0) = true := decide_eq_true q1
          have q := Lib.hid (show y7 < 0 ∨ (ss.length : Int) ≤ y7 from .inl q1)
          clear q1
          go_enter Tryz.func85, Tryz.ntmps85
          go_wp2_with fail
          refine (HC.out _).mono ?_; rintro e w1 ⟨rfl, hb1⟩
          have k0 := (hb1.block _ (by simp; omega)).trans hs0.out
          have k1 := (hb1.block _ (by simp)).trans hs1.out
          have bw := bt hb2 hb1 hb2.size
          clear c0 c1 c2 c3 c4 c5 c6 hs0 hs1
          have d0 : w1.cell? ⟨w.heap.size, 0, none⟩ = some (.int .i64 n) := by rw [cell_of_row _ _ 0 _ _ _ k0]; rfl
          have d1 : w1.cell? ⟨w.heap.size, 1, none⟩ = some (.slice sa ss.length sc) := by rw [cell_of_row _ _ 1 _ _ _ k0]; rfl
          have r0 : w1.cell? ⟨w.heap.size + 1, 0, none⟩ = some (.int .i64 y0) := by rw [cell_of_row _ _ 0 _ _ _ k1]; rfl
          have r1 : w1.cell? ⟨w.heap.size + 1, 1, none⟩ = some (.int .i64 y1) := by rw [cell_of_row _ _ 1 _ _ _ k1]; rfl
          have r2 : w1.cell? ⟨w.heap.size + 1, 2, none⟩ = some (.int .i64 y2) := by rw [cell_of_row _ _ 2 _ _ _ k1]; rfl
          have r3 : w1.cell? ⟨w.heap.size + 1, 3, none⟩ = some (.int .i64 y3) := by rw [cell_of_row _ _ 3 _ _ _ k1]; rfl
          have r4 : w1.cell? ⟨w.heap.size + 1, 4, none⟩ = some (.int .i64 y4) := by rw [cell_of_row _ _ 4 _ _ _ k1]; rfl
          have r5 : w1.cell? ⟨w.heap.size + 1, 5, none⟩ = some (.int .i64 y5) := by rw [cell_of_row _ _ 5 _ _ _ k1]; rfl
          have r6 : w1.cell? ⟨w.heap.size + 1, 6, none⟩ = some (.int .i64 y6) := by rw [cell_of_row _ _ 6 _ _ _ k1]; rfl
          have bz : Below w.heap.size w w1 := bw
          obtain ⟨_, _, _, _, _, _, _, e7⟩ := (hxc.out.keep bw).all8
          go_wp2
          go_quiet (fail)
          go_wp2
          go_quiet (fail)
          go_wp2
          go_ret
          exact ⟨ret_int (mvErr_4 hx.out hE.out hn.out h3.out q.out).symm, below_drewN (below_drewN bz _) _⟩
        · have q1' : decide (y7 < 0) = false := decide_eq_false q1
          by_cases q2 : (ss.length : Int) ≤ y7
          · have q2' : decide ((ss.length : Int) ≤ y7) = true := decide_eq_true q2
            have q := Lib.hid (show y7 < 0 ∨ (ss.length : Int) ≤ y7 from .inr q2)
            clear q1 q2
            go_enter Tryz.func85, Tryz.ntmps85
            go_wp2_with fail
            refine (HC.out _).mono ?_; rintro e w1 ⟨rfl, hb1⟩
            have k0 := (hb1.block _ (by simp; omega)).trans hs0.out
            have k1 := (hb1.block _ (by simp)).trans hs1.out
            have bw := bt hb2 hb1 hb2.size
            clear c0 c1 c2 c3 c4 c5 c6 hs0 hs1
            have d0 : w1.cell? ⟨w.heap.size, 0, none⟩ = some (.int .i64 n) := by rw [cell_of_row _ _ 0 _ _ _ k0]; rfl
            have d1 : w1.cell? ⟨w.heap.size, 1, none⟩ = some (.slice sa ss.length sc) := by rw [cell_of_row _ _ 1 _ _ _ k0]; rfl
            have r0 : w1.cell? ⟨w.heap.size + 1, 0, none⟩ = some (.int .i64 y0) := by rw [cell_of_row _ _ 0 _ _ _ k1]; rfl
            have r1 : w1.cell? ⟨w.heap.size + 1, 1, none⟩ = some (.int .i64 y1) := by rw [cell_of_row _ _ 1 _ _ _ k1]; rfl
            have r2 : w1.cell? ⟨w.heap.size + 1, 2, none⟩ = some (.int .i64 y2) := by rw [cell_of_row _ _ 2 _ _ _ k1]; rfl
            have r3 : w1.cell? ⟨w.heap.size + 1, 3, none⟩ = some (.int .i64 y3) := by rw [cell_of_row _ _ 3 _ _ _ k1]; rfl
            have r4 : w1.cell? ⟨w.heap.size + 1, 4, none⟩ = some (.int .i64 y4) := by rw [cell_of_row _ _ 4 _ _ _ k1]; rfl
            have r5 : w1.cell? ⟨w.heap.size + 1, 5, none⟩ = some (.int .i64 y5) := by rw [cell_of_row _ _ 5 _ _ _ k1]; rfl
            have r6 : w1.cell? ⟨w.heap.size + 1, 6, none⟩ = some (.int .i64 y6) := by rw [cell_of_row _ _ 6 _ _ _ k1]; rfl
            have bz : Below w.heap.size w w1 := bw
            obtain ⟨_, _, _, _, _, _, _, e7⟩ := (hxc.out.keep bw).all8
            go_wp2
            go_quiet (fail)
            go_wp2
            go_quiet (fail)
            go_wp2
            go_ret
            exact ⟨ret_int (mvErr_4 hx.out hE.out hn.out h3.out q.out).symm, below_drewN (below_drewN bz _) _⟩
          · have q2' : decide ((ss.length : Int) ≤ y7) = false := decide_eq_false q2
            have q := Lib.hid (show ¬ (y7 < 0 ∨ (ss.length : Int) ≤ y7) by omega)
            clear q1 q2
            go_enter Tryz.func85, Tryz.ntmps85
            go_wp2_with fail
            refine (HC.out _).mono ?_; rintro e w1 ⟨rfl, hb1⟩
            have k0 := (hb1.block _ (by simp; omega)).trans hs0.out
            have k1 := (hb1.block _ (by simp)).trans hs1.out
            have bw := bt hb2 hb1 hb2.size
            clear c0 c1 c2 c3 c4 c5 c6 hs0 hs1
            have d0 : w1.cell? ⟨w.heap.size, 0, none⟩ = some (.int .i64 n) := by rw [cell_of_row _ _ 0 _ _ _ k0]; rfl
            have d1 : w1.cell? ⟨w.heap.size, 1, none⟩ = some (.slice sa ss.length sc) := by rw [cell_of_row _ _ 1 _ _ _ k0]; rfl
            have r0 : w1.cell? ⟨w.heap.size + 1, 0, none⟩ = some (.int .i64 y0) := by rw [cell_of_row _ _ 0 _ _ _ k1]; rfl
            have r1 : w1.cell? ⟨w.heap.size + 1, 1, none⟩ = some (.int .i64 y1) := by rw [cell_of_row _ _ 1 _ _ _ k1]; rfl
            have r2 : w1.cell? ⟨w.heap.size + 1, 2, none⟩ = some (.int .i64 y2) := by rw [cell_of_row _ _ 2 _ _ _ k1]; rfl
            have r3 : w1.cell? ⟨w.heap.size + 1, 3, none⟩ = some (.int .i64 y3) := by rw [cell_of_row _ _ 3 _ _ _ k1]; rfl
            have r4 : w1.cell? ⟨w.heap.size + 1, 4, none⟩ = some (.int .i64 y4) := by rw [cell_of_row _ _ 4 _ _ _ k1]; rfl
            have r5 : w1.cell? ⟨w.heap.size + 1, 5, none⟩ = some (.int .i64 y5) := by rw [cell_of_row _ _ 5 _ _ _ k1]; rfl
            have r6 : w1.cell? ⟨w.heap.size + 1, 6, none⟩ = some (.int .i64 y6) := by rw [cell_of_row _ _ 6 _ _ _ k1]; rfl
            have bz : Below w.heap.size w w1 := bw
            obtain ⟨_, _, _, _, _, _, _, e7⟩ := (hxc.out.keep bw).all8
            go_wp2
            go_quiet (fail)
            go_wp2
            go_quiet (fail)
            go_wp2
            go_ret
            exact ⟨ret_int (mvErr_5 hx.out hE.out hn.out h3.out (by have := q.out; show ¬ (y7 < 0 ∨ (ss.length : Int) ≤ y7); omega)).symm, below_drewN (below_drewN bz _) _⟩
    · have hn' : (y0 != n) = true := by simpa using hn
      replace hn := Lib.hid hn
      go_enter Tryz.func85, Tryz.ntmps85
      go_wp2_with fail
      refine (HC.out _).mono ?_; rintro e w1 ⟨rfl, hb1⟩
      have k0 := (hb1.block _ (by simp; omega)).trans hs0.out
      have k1 := (hb1.block _ (by simp)).trans hs1.out
      have bw := bt hb2 hb1 hb2.size
      clear c0 c1 c2 c3 c4 c5 c6 hs0 hs1
      have d0 : w1.cell? ⟨w.heap.size, 0, none⟩ = some (.int .i64 n) := by rw [cell_of_row _ _ 0 _ _ _ k0]; rfl
      have d1 : w1.cell? ⟨w.heap.size, 1, none⟩ = some (.slice sa ss.length sc) := by rw [cell_of_row _ _ 1 _ _ _ k0]; rfl
      have r0 : w1.cell? ⟨w.heap.size + 1, 0, none⟩ = some (.int .i64 y0) := by rw [cell_of_row _ _ 0 _ _ _ k1]; rfl
      have r1 : w1.cell? ⟨w.heap.size + 1, 1, none⟩ = some (.int .i64 y1) := by rw [cell_of_row _ _ 1 _ _ _ k1]; rfl
      have r2 : w1.cell? ⟨w.heap.size + 1, 2, none⟩ = some (.int .i64 y2) := by rw [cell_of_row _ _ 2 _ _ _ k1]; rfl
      have r3 : w1.cell? ⟨w.heap.size + 1, 3, none⟩ = some (.int .i64 y3) := by rw [cell_of_row _ _ 3 _ _ _ k1]; rfl
      have r4 : w1.cell? ⟨w.heap.size + 1, 4, none⟩ = some (.int .i64 y4) := by rw [cell_of_row _ _ 4 _ _ _ k1]; rfl
      have r5 : w1.cell? ⟨w.heap.size + 1, 5, none⟩ = some (.int .i64 y5) := by rw [cell_of_row _ _ 5 _ _ _ k1]; rfl
      have r6 : w1.cell? ⟨w.heap.size + 1, 6, none⟩ = some (.int .i64 y6) := by rw [cell_of_row _ _ 6 _ _ _ k1]; rfl
      go_wp2
      go_ret
      exact ⟨ret_int (mvErr_2 hx.out hE.out hn.out).symm, bw⟩

  · have hz' : (E != 0) = true := by simpa using hz
    replace hz := Lib.hid hz
    go_enter Tryz.func85, Tryz.ntmps85
    go_wp2_with fail
    refine (HC.out _).mono ?_; rintro e w1 ⟨rfl, hb1⟩
    have k0 := (hb1.block _ (by simp; omega)).trans hs0.out
    have k1 := (hb1.block _ (by simp)).trans hs1.out
    have bw := bt hb2 hb1 hb2.size
    clear c0 c1 c2 c3 c4 c5 c6 hs0 hs1
    have d0 : w1.cell? ⟨w.heap.size, 0, none⟩ = some (.int .i64 n) := by rw [cell_of_row _ _ 0 _ _ _ k0]; rfl
    have d1 : w1.cell? ⟨w.heap.size, 1, none⟩ = some (.slice sa ss.length sc) := by rw [cell_of_row _ _ 1 _ _ _ k0]; rfl
    have r0 : w1.cell? ⟨w.heap.size + 1, 0, none⟩ = some (.int .i64 y0) := by rw [cell_of_row _ _ 0 _ _ _ k1]; rfl
    have r1 : w1.cell? ⟨w.heap.size + 1, 1, none⟩ = some (.int .i64 y1) := by rw [cell_of_row _ _ 1 _ _ _ k1]; rfl
    have r2 : w1.cell? ⟨w.heap.size + 1, 2, none⟩ = some (.int .i64 y2) := by rw [cell_of_row _ _ 2 _ _ _ k1]; rfl
    have r3 : w1.cell? ⟨w.heap.size + 1, 3, none⟩ = some (.int .i64 y3) := by rw [cell_of_row _ _ 3 _ _ _ k1]; rfl
    have r4 : w1.cell? ⟨w.heap.size + 1, 4, none⟩ = some (.int .i64 y4) := by rw [cell_of_row _ _ 4 _ _ _ k1]; rfl
    have r5 : w1.cell? ⟨w.heap.size + 1, 5, none⟩ = some (.int .i64 y5) := by rw [cell_of_row _ _ 5 _ _ _ k1]; rfl
    have r6 : w1.cell? ⟨w.heap.size + 1, 6, none⟩ = some (.int .i64 y6) := by rw [cell_of_row _ _ 6 _ _ _ k1]; rfl

    go_wp2
    go_ret
    exact ⟨ret_int (by rw [mvErr_1 hx.out (by rw [show ([y0, y1, y2, y3, y4, y5, y6, y7] : List Int).take 7 = [y0, y1, y2, y3, y4, y5, y6] from rfl, hE.out]; exact hz.out)]; exact hE.out.symm), bw⟩
end Go.Proofs.YtiiiegflobihjaaGreat

/- A region that draws its order, within a round of a loop over a function: what is shown outside of rounds holds there, too. -/
import Derived.Test.YtpjlaaldepfnkaaDoorIt
import Derived.StillTailTactics
import Derived.OrdersIn
import Derived.Deep.QuietTactic
import Derived.BigQuiet
namespace Go.Proofs.YtpjlaaldepfnkaaDoor
open Go.RowKit

theorem opIn_of_op {P : Program} {l0 : Nat} {o : Oper} {a : Act} {w : World} {K : Act → World → Prop} {Q : Exit → Act → World → Prop} (hd : ∀ c, o.op ≠ .defer c) (h : o.wp P a w K Q) :
    o.wpIn (Fence.wide.inRound l0) 0 P a w K Q := by
  refine ⟨fun _ _ => trivial, ?_⟩
  unfold Oper.wp at h
  rw [Oper.semAt_eq _ _ _ hd]
  generalize (execOp a.eval o).run P w = r at h ⊢
  have hdep : (Fence.wide.inRound l0).depth.isSome = true → 1 ≤ 0 := fun h => by simp [Fence.wide] at h
  cases r with
  | halt x w' => cases x <;> first | exact h | exact h.elim
  | ok nx w' =>
    cases nx with
    | enter f args => exact ⟨hdep, CallsIn.inRound l0 (callsIn_wide.2 h)⟩
    | row r args => exact ⟨hdep, fun c cs _ => by
        obtain ⟨v, w2, hr, hs⟩ := h c cs
        exact ⟨v, w2, hr, stepsIn_wide.2 hs⟩⟩
    | _ => first | exact h | exact h.elim

theorem anyIn_of_any {P : Program} {l0 : Nat} {md : Region.Mode} {ops : Array Oper} {Q : Exit → Act → World → Prop} (hnd : ∀ (i : Nat) o, ops[i]? = some o → ∀ c, o.op ≠ .defer c) (hQ : ¬ LetsOut Q) :
    ∀ (fuel : Nat) (listed : Array Bool) (a : Act) (w : World), wpAny P md ops Q fuel listed a w → wpAnyIn (Fence.wide.inRound l0) 0 P md ops Q fuel listed a w
  | 0, _, _, _, h => h
  | fuel + 1, listed, a, w, h => by
    refine ⟨h.1, fun i hi => ?_⟩
    have h1 := h.2 i hi
    unfold wpOp at h1
    unfold wpOpIn
    cases ho : ops[i]? with
    | none => rw [ho] at h1; exact anyIn_of_any hnd hQ fuel _ _ _ h1
    | some o =>
      rw [ho] at h1
      simp only at h1 ⊢
      by_cases hw : Region.wanted o (yielded ops a.tmps) = true
      · rw [if_pos hw] at h1 ⊢
        refine opIn_of_op (hnd i o ho) ?_
        exact Oper.wp_mono (fun a w hh => anyIn_of_any hnd hQ fuel _ a w hh) (h1.resolve_right (fun hh => hQ hh.2))
      · rw [if_neg hw] at h1 ⊢
        exact ⟨fun _ _ => trivial, anyIn_of_any hnd hQ fuel _ _ _ h1⟩

/-- No operation is a defer statement. -/
def noDefer (l : List Oper) : Bool := l.all fun o => match o.op with | .defer _ => false | _ => true
theorem noDefer_get {l : List Oper} (h : noDefer l = true) : ∀ (i : Nat) o, l.toArray[i]? = some o → ∀ c, o.op ≠ .defer c := by
  intro i o ho c hc
  have hm : o ∈ l := by rw [List.getElem?_toArray] at ho; exact List.mem_of_getElem? ho
  have := List.all_eq_true.1 h o hm
  rw [hc] at this
  cases this

/-- Reads and quiet calls ahead of one operation that writes, in a round. -/
theorem wpIn_region_tail {P : Program} {l0 id : Nat} {Q : Exit → Act → World → Prop} {a : Act} {w : World} {l : List Oper} (n : Nat) (hm : P.follows .mixedOrders = true) (hB : Region.lexTailB .any l.toArray n = true)
    (hd : noDefer l = true) (hQ : ¬ LetsOut Q) (h : wpStill P l.toArray w.drew (fun a' => wpList P l.toArray Q (l.drop n) a' w.drew) (l.take n) a) :
    (Code.region id l.toArray true).wpIn (Fence.wide.inRound l0) 0 P Q a w := by
  refine wpIn_region_any hm (anyIn_of_any (noDefer_get hd) hQ _ _ _ _ ?_)
  simp only [Region.lexTailB, Bool.and_eq_true, decide_eq_true_eq] at hB
  obtain ⟨⟨⟨⟨hsel, hn⟩, hs⟩, hc⟩, hlex⟩ := hB
  have t1 : (l.take n).length = n := by simp at hn ⊢; omega
  have t2 : (l.drop n).length = l.toArray.size - n := by simp
  have start : HeadInv .any l.toArray n (Array.replicate l.toArray.size false) :=
    ⟨by simp, fun j oj _ hh => (by rw [getD_replicate_false] at hh; cases hh), fun t _ ht => getD_in (by simpa using ht) (getD_replicate_false _ _)⟩
  have head := wpAnyL_lex (md := .any) (g := l.toArray.size - n) hsel hs hc hn (l.take n) 0 _ a (fun j hj => by
    rw [t1] at hj
    simp [hj]) (by simpa using t1) start (by rw [t1]; exact hlex) h
  have all := wpAny_of_head (Q' := Q) (g := l.toArray.size - n) (fun listed a' hL => by
    have := wpAny_of_seq (md := .any) (Q' := Q) (l.drop n) n listed a' w.drew (fun j => by simp [List.getElem?_drop]) (by rw [t2]; exact hL.1) hL.2
    rwa [t2] at this) _ _ _ head
  rw [t1, show n + (l.toArray.size - n) = l.toArray.size by omega] at all
  exact all

/-- An operation that does nothing, in the place of another. -/
def mask (o : Oper) : Oper := { dst := none, op := .move (.const undef), type := o.type, pos := o.pos, after := o.after, guard := none }
def maskLast (n : Nat) (l : List Oper) : List Oper := l.take n ++ (l.drop n).map mask
/-- Operation n is the last, waits for all others, and every operation waits for earlier ones only. -/
def qtB (n : Nat) (l : List Oper) : Bool :=
  decide (l.length = n + 1) && Region.sinkB .any l.toArray n && (List.range l.length).all (fun i => match l[i]? with | some o => o.after.all fun e => decide (e.on < i) | none => true) &&
  Region.lexB .any (maskLast n l).toArray && ((l.drop n).all fun o => o.guard.isNone)

theorem maskLast_get {n : Nat} {l : List Oper} (i : Nat) : (maskLast n l)[i]? = if i < n then l[i]? else (l[i]?).map mask := by
  unfold maskLast
  by_cases h : i < (l.take n).length
  · rw [List.getElem?_append_left h]
    have : i < n := by rw [List.length_take] at h; omega
    rw [if_pos this, List.getElem?_take, if_pos this]
  · rw [List.getElem?_append_right (by omega), List.getElem?_map, List.getElem?_drop]
    rw [List.length_take] at h ⊢
    by_cases hi : i < n
    · rw [if_pos hi]
      have : l.length ≤ i := by omega
      rw [List.getElem?_eq_none (by omega : l.length ≤ n + (i - min n l.length)), List.getElem?_eq_none this]; rfl
    · rw [if_neg hi]
      by_cases hn : n ≤ l.length
      · rw [show n + (i - min n l.length) = i by omega]
      · rw [List.getElem?_eq_none (by omega : l.length ≤ n + (i - min n l.length)), List.getElem?_eq_none (by omega : l.length ≤ i)]
theorem maskLast_length (n : Nat) (l : List Oper) : (maskLast n l).length = l.length := by simp [maskLast]; omega
theorem ready_mask (md : Region.Mode) (n : Nat) (l : List Oper) (listed : Array Bool) : Region.ready md (maskLast n l).toArray listed = Region.ready md l.toArray listed := by
  unfold Region.ready
  simp only [List.size_toArray, maskLast_length, List.getElem?_toArray, maskLast_get]
  congr 1
  funext i
  by_cases h : i < n
  · rw [if_pos h]
  · rw [if_neg h]
    cases l[i]? <;> rfl

theorem wpQuiet_append {P : Program} {ops : Array Oper} {C : World → Prop} {Q : Act → Prop} : ∀ {l1 l2 : List Oper} {a : Act}, wpQuiet P ops C (fun a => wpQuiet P ops C Q l2 a) l1 a → wpQuiet P ops C Q (l1 ++ l2) a
  | [], _, _, h => h
  | o :: l1, l2, a, h => by
    rw [List.cons_append]
    unfold wpQuiet at h ⊢
    split
    · rename_i hw
      rw [if_pos hw] at h
      exact Oper.quiet_mono (fun a hh => wpQuiet_append hh) h
    · rename_i hw
      rw [if_neg hw] at h
      exact wpQuiet_append h

theorem wpQuiet_mono' {P : Program} {ops : Array Oper} {C : World → Prop} {Q Q' : Act → Prop} (hq : ∀ a, Q a → Q' a) : ∀ {l : List Oper} {a : Act}, wpQuiet P ops C Q l a → wpQuiet P ops C Q' l a
  | [], _, h => hq _ h
  | o :: l, a, h => by
    unfold wpQuiet at h ⊢
    split
    · rename_i hw
      rw [if_pos hw] at h
      exact Oper.quiet_mono (fun a hh => wpQuiet_mono' hq hh) h
    · rename_i hw
      rw [if_neg hw] at h
      exact wpQuiet_mono' hq h

theorem any_of_quiet_last {P : Program} {C : World → Prop} {Qa : Act → Prop} {Q : Exit → Act → World → Prop} {n : Nat} {l : List Oper} {last : Oper} (hlen : l.length = n + 1) (hlast : l[n]? = some last) (hg : last.guard = none)
    (hs : Region.sinkB .any l.toArray n = true) (hback : ∀ (i : Nat) (o : Oper), l[i]? = some o → ∀ e ∈ o.after, e.on < i)
    (hQ : ∀ a w, C w → Qa a → last.wp P a w (fun a w => Q .normal a w) Q) (hng : ∀ (i : Nat) (o : Oper), l[i]? = some o → ∀ tmps, Region.wanted o (yielded (maskLast n l).toArray tmps) = Region.wanted o (yielded l.toArray tmps)) :
    ∀ (fuel : Nat) (listed : Array Bool) (a : Act) (w : World), HeadInv .any l.toArray n listed → C w → wpAnyQ P .any (maskLast n l).toArray C Qa fuel listed a → 1 ≤ fuel → wpAny P .any l.toArray Q fuel listed a w
  | 0, _, _, _, _, _, _, h1 => absurd h1 (by omega)
  | fuel + 1, listed, a, w, inv, hC, h, _ => by
    have hc : Region.chainB .any l.toArray n = true := by
      refine List.all_eq_true.2 fun t ht => ?_
      rw [List.mem_range, List.size_toArray] at ht
      simp only [Bool.or_eq_true, decide_eq_true_eq]
      left; omega
    have hn : n < l.toArray.size := by simp; omega
    -- something is ready
    have hne : Region.ready .any l.toArray listed ≠ [] := by
      have key : ∀ k, k < l.length → listed.getD k true = false → ∃ j, j ∈ Region.ready .any l.toArray listed := by
        intro k
        induction k using Nat.strongRecOn with
        | _ k ih =>
          intro hk hun
          by_cases hall : ∀ e ∈ (l[k]'hk).after, Region.binds .any e = true → listed.getD e.on false = true
          · exact ⟨k, mem_ready.2 ⟨hun, l[k], by rw [List.getElem?_toArray, List.getElem?_eq_getElem hk], hall⟩⟩
          · obtain ⟨e, he⟩ := Classical.not_forall.1 hall
            obtain ⟨he1, he2⟩ := Classical.not_imp.1 he
            obtain ⟨_, he3⟩ := Classical.not_imp.1 he2
            have hlt := hback k l[k] (List.getElem?_eq_getElem hk) e he1
            have hsz : e.on < listed.size := by rw [inv.size]; simp; omega
            exact ih e.on hlt (by omega) (getD_in hsz (by simpa using he3))
      obtain ⟨j, hj⟩ := key n (by omega) (inv.tail n (Nat.le_refl _) hn)
      intro h0
      rw [h0] at hj; cases hj
    refine ⟨fun h0 => absurd h0 hne, fun i hi => ?_⟩
    have hi' : i ∈ Region.ready .any (maskLast n l).toArray listed := by rw [ready_mask]; exact hi
    have hq := h.2 i hi'
    obtain ⟨hiun, oi, hoi, _⟩ := mem_ready.1 hi
    have hilt : i < l.length := by have := (Array.getElem?_eq_some_iff.1 hoi).1; simpa using this
    by_cases hin : i < n
    · have hoi' : (maskLast n l).toArray[i]? = some oi := by rw [List.getElem?_toArray, maskLast_get, if_pos hin, ← List.getElem?_toArray]; exact hoi
      have hq2 : qOp P l.toArray C i (wpAnyQ P .any (maskLast n l).toArray C Qa fuel (listed.setIfInBounds i true)) a := by
        unfold qOp at hq ⊢
        rw [hoi'] at hq
        rw [hoi]
        simp only at hq ⊢
        rw [hng i oi (by simpa using hoi)] at hq
        exact hq
      have hf : 1 ≤ fuel := by
        cases fuel with
        | succ f => omega
        | zero =>
          obtain ⟨v, hy, hK⟩ := yieldsIn_of_qOp hoi hq2
          have hnr := hK.1
          rw [ready_mask] at hnr
          have inv2 := inv.set hi hin
          have key : ∀ k, k < l.length → (listed.setIfInBounds i true).getD k true = false → ∃ j, j ∈ Region.ready .any l.toArray (listed.setIfInBounds i true) := by
            intro k
            induction k using Nat.strongRecOn with
            | _ k ih =>
              intro hk hun
              by_cases hall : ∀ e ∈ (l[k]'hk).after, Region.binds .any e = true → (listed.setIfInBounds i true).getD e.on false = true
              · exact ⟨k, mem_ready.2 ⟨hun, l[k], by rw [List.getElem?_toArray, List.getElem?_eq_getElem hk], hall⟩⟩
              · obtain ⟨e, he⟩ := Classical.not_forall.1 hall
                obtain ⟨he1, he2⟩ := Classical.not_imp.1 he
                obtain ⟨_, he3⟩ := Classical.not_imp.1 he2
                have hlt := hback k l[k] (List.getElem?_eq_getElem hk) e he1
                have hsz : e.on < (listed.setIfInBounds i true).size := by rw [inv2.size]; simp; omega
                exact ih e.on hlt (by omega) (getD_in hsz (by simpa using he3))
          obtain ⟨j, hj⟩ := key n (by omega) (inv2.tail n (Nat.le_refl _) hn)
          rw [hnr] at hj; cases hj
      exact wpOp_of_qOp hC (fun a' w' hC' hK => any_of_quiet_last hlen hlast hg hs hback hQ hng fuel _ a' w' (inv.set hi hin) hC' hK hf) hq2
    · obtain rfl : i = n := by omega
      have hol : oi = last := by
        rw [List.getElem?_toArray, hlast] at hoi
        exact (Option.some.inj hoi).symm
      subst hol
      -- all others are listed
      have hall : ∀ j, j < i → listed.getD j true = true := by
        intro j hj
        cases hb : listed.getD j true with
        | true => rfl
        | false => exact absurd hi (tail_waits hs hc hn inv _ j rfl hj hb i (Nat.le_refl _))
      have hend : Region.ready .any l.toArray (listed.setIfInBounds i true) = [] := by
        cases hR : Region.ready .any l.toArray (listed.setIfInBounds i true) with
        | nil => rfl
        | cons j r =>
          have hj : j ∈ Region.ready .any l.toArray (listed.setIfInBounds i true) := by rw [hR]; simp
          obtain ⟨hjun, oj, hoj, _⟩ := mem_ready.1 hj
          have hjlt : j < l.length := by have := (Array.getElem?_eq_some_iff.1 hoj).1; simpa using this
          by_cases hji : i = j
          · subst hji
            have : i < listed.size := by rw [inv.size]; simpa using hilt
            simp [this] at hjun
          · rw [getD_set_ne true hji] at hjun
            rw [hall j (by omega)] at hjun; cases hjun
      have hKa : Qa a := by
        unfold qOp at hq
        have hml : (maskLast i l).toArray[i]? = some (mask oi) := by rw [List.getElem?_toArray, maskLast_get, if_neg (by omega), hlast]; rfl
        rw [hml] at hq
        simp only [Region.wanted, mask, if_true] at hq
        obtain ⟨v, _, hK⟩ := hq
        have hK' : wpAnyQ P .any (maskLast i l).toArray C Qa fuel (listed.setIfInBounds i true) a := hK
        cases fuel with
        | zero => exact hK'.2
        | succ f => exact hK'.1 (by rw [ready_mask]; exact hend)
      unfold wpOp
      rw [hoi]
      simp only [Region.wanted, hg, if_true]
      refine .inl (Oper.wp_mono (fun a' w' hh => ?_) (hQ a w hC hKa))
      cases fuel with
      | zero => exact ⟨hend, hh⟩
      | succ f => exact ⟨fun _ => hh, fun j hj => by rw [hend] at hj; cases hj⟩

/-- No operation is guarded. -/
def noGuard (l : List Oper) : Bool := l.all fun o => o.guard.isNone
theorem noGuard_get {l : List Oper} (h : noGuard l = true) {i : Nat} {o : Oper} (ho : l[i]? = some o) : o.guard = none := by
  have := List.all_eq_true.1 h o (List.mem_of_getElem? ho)
  simpa using this

/-- Reads and calls that draw at most, ahead of one last operation: any order. -/
theorem any_qtail {P : Program} {Q : Exit → Act → World → Prop} {a : Act} {w : World} {l : List Oper} (n : Nat) (hB : qtB n l = true) (hg : noGuard l = true)
    (h : wpQuiet P (maskLast n l).toArray (fun w' => ∃ k, w' = w.drewN k) (fun a' => ∀ k, wpList P l.toArray Q (l.drop n) a' (w.drewN k)) (l.take n) a) (hQ : ¬ LetsOut Q) :
    wpAny P .any l.toArray Q l.toArray.size (Array.replicate l.toArray.size false) a w.drew := by
  simp only [qtB, Bool.and_eq_true, decide_eq_true_eq] at hB
  obtain ⟨⟨⟨⟨hlen, hs⟩, hb⟩, hlex⟩, _⟩ := hB
  have hback : ∀ (i : Nat) (o : Oper), l[i]? = some o → ∀ e ∈ o.after, e.on < i := by
    intro i o ho e he
    have := List.all_eq_true.1 hb i (List.mem_range.2 (List.getElem?_eq_some_iff.1 ho).1)
    rw [ho] at this
    simp only at this
    exact of_decide_eq_true (Array.all_eq_true'.1 this e he)
  have hlt : n < l.length := by omega
  have hlast : l[n]? = some l[n] := List.getElem?_eq_getElem hlt
  have hdrop : l.drop n = [l[n]] := by rw [List.drop_eq_getElem_cons hlt, List.drop_eq_nil_of_le (by omega)]
  have hgl : l[n].guard = none := noGuard_get hg hlast
  have start : HeadInv .any l.toArray n (Array.replicate l.toArray.size false) :=
    ⟨by simp, fun j oj _ hh => (by rw [getD_replicate_false] at hh; cases hh), fun t _ ht => getD_in (by simpa using ht) (getD_replicate_false _ _)⟩
  refine any_of_quiet_last (C := fun w' => ∃ k, w' = w.drewN k) (Qa := fun a' => ∀ k, wpList P l.toArray Q (l.drop n) a' (w.drewN k)) hlen hlast hgl hs hback ?_ ?_ _ _ _ _ start ⟨1, rfl⟩ ?_ (by simp; omega)
  · rintro a w' ⟨k, rfl⟩ hh
    have h1 := hh k
    rw [hdrop] at h1
    unfold wpList at h1
    rw [if_pos (by simp [Region.wanted, hgl])] at h1
    exact Oper.wp_mono (fun a w hh => hh) (h1.resolve_right (fun hh => hQ hh.2))
  · intro i o ho tmps
    simp [Region.wanted, noGuard_get hg ho]
  · simp only [Region.lexB, Bool.and_eq_true] at hlex
    have hml : (maskLast n l) = l.take n ++ [mask l[n]] := by rw [maskLast, hdrop]; rfl
    have hw : wpQuiet P (maskLast n l).toArray (fun w' => ∃ k, w' = w.drewN k) (fun a' => ∀ k, wpList P l.toArray Q (l.drop n) a' (w.drewN k)) (maskLast n l) a := by
      conv => arg 5; rw [hml]
      refine wpQuiet_append ?_
      refine wpQuiet_mono' ?_ h
      intro a' hh
      unfold wpQuiet
      rw [if_pos (by simp [Region.wanted, mask])]
      exact ⟨undef, fun w' _ => ⟨rfl, rfl⟩, hh⟩
    have := wpAnyQ_lex (C := fun w' => ∃ k, w' = w.drewN k) (md := .any) hlex.1 (maskLast n l) 0 (Array.replicate (maskLast n l).toArray.size false) a (by simp) (by simpa using hlex.2) hw
    simpa [maskLast_length] using this

theorem wpIn_region_qtail {P : Program} {l0 id : Nat} {Q : Exit → Act → World → Prop} {a : Act} {w : World} {l : List Oper} (n : Nat) (hm : P.follows .mixedOrders = true) (hB : qtB n l = true) (hg : noGuard l = true)
    (hd : noDefer l = true) (hQ : ¬ LetsOut Q) (h : ∀ ops', wpQuiet P ops' (fun w' => ∃ k, w' = w.drewN k) (fun a' => ∀ k, wpList P l.toArray Q (l.drop n) a' (w.drewN k)) (l.take n) a) :
    (Code.region id l.toArray true).wpIn (Fence.wide.inRound l0) 0 P Q a w :=
  wpIn_region_any hm (anyIn_of_any (noDefer_get hd) hQ _ _ _ _ (any_qtail n hB hg (h _) hQ))
end Go.Proofs.YtpjlaaldepfnkaaDoor

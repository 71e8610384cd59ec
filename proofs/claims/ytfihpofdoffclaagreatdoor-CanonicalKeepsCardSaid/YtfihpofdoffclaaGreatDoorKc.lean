/- Texts of this claim, put together: Bx Rd By QA MX. -/
import Derived.Test.YtfihpofdoffclaaGreatDoorKb
import Derived.StillTailTactics
import Derived.OrdersIn
import Derived.Deep.QuietTactic
import Derived.BigQuiet
import Derived.Test.YtfihpofdoffclaaGreatDoorKa
import Derived.Maps.Own
import Derived.DeepKeys5

/- strconv.Itoa of small numbers. -/
namespace Go.Proofs.YtfihpofdoffclaaGreatDoor
open Go.RowKit

def digz : ByteArray := { data := #[48, 49, 50, 51, 52, 53, 54, 55, 56, 57, 97, 98, 99, 100, 101, 102, 103, 104, 105, 106, 107, 108, 109, 110, 111, 112, 113, 114, 115, 116, 117, 118, 119, 120, 121, 122] }
def digI (p : Int) : ByteArray := digz.extract p.toNat (p + 1).toNat

set_option maxRecDepth 100000 in
set_option maxHeartbeats 400000 in
theorem smallCall (p : Int) (w : World) (h0 : 0 ≤ p) (h9 : p < 10) : Calls Tryz.prog 159 #[.int .i64 p] w fun e w' => e = .returned (.string (digI p)) ∧ w = w' := by
  go_enter Tryz.func159, Tryz.ntmps159
  go_wp2
  go_ret
  exact ⟨rfl, rfl⟩

end Go.Proofs.YtfihpofdoffclaaGreatDoor

/- A region that draws its order, within a round of a loop over a function: what is shown outside of rounds holds there, too. -/
namespace Go.Proofs.YtfihpofdoffclaaGreatDoor
open Go.RowKit

theorem opIn_of_op {P : Program} {l0 : Nat} {o : Oper} {a : Act} {w : World} {K : Act → World → Prop} {Q : Exit → Act → World → Prop} (hd : ∀ c, o.op ≠ .defer c) (h : o.wp P a w K Q) :
    o.wpIn (Fence.wide.inRound l0) 0 P a w K Q := by
  refine ⟨fun _ _ => trivial, ?_⟩
  unfold Oper.wp at h
  rw [Oper.semAt_eq _ _ _ hd]
  generalize (execOp a.eval o).run P w = r at h ⊢
  have hdep : (Fence.wide.inRound l0).depth.isSome = true → 1 ≤ 0 := fun h => by simp [Fence.wide] at h
  cases r with
  | halt x w' => cases x <;> first | exact h | exact h.elim
  | ok nx w' =>
    cases nx with
    | enter f args => exact ⟨hdep, CallsIn.inRound l0 (callsIn_wide.2 h)⟩
    | row r args => exact ⟨hdep, fun c cs _ => by
        obtain ⟨v, w2, hr, hs⟩ := h c cs
        exact ⟨v, w2, hr, stepsIn_wide.2 hs⟩⟩
    | _ => first | exact h | exact h.elim

theorem anyIn_of_any {P : Program} {l0 : Nat} {md : Region.Mode} {ops : Array Oper} {Q : Exit → Act → World → Prop} (hnd : ∀ (i : Nat) o, ops[i]? = some o → ∀ c, o.op ≠ .defer c) (hQ : ¬ LetsOut Q) :
    ∀ (fuel : Nat) (listed : Array Bool) (a : Act) (w : World), wpAny P md ops Q fuel listed a w → wpAnyIn (Fence.wide.inRound l0) 0 P md ops Q fuel listed a w
  | 0, _, _, _, h => h
  | fuel + 1, listed, a, w, h => by
    refine ⟨h.1, fun i hi => ?_⟩
    have h1 := h.2 i hi
    unfold wpOp at h1
    unfold wpOpIn
    cases ho : ops[i]? with
    | none => rw [ho] at h1; exact anyIn_of_any hnd hQ fuel _ _ _ h1
    | some o =>
      rw [ho] at h1
      simp only at h1 ⊢
      by_cases hw : Region.wanted o (yielded ops a.tmps) = true
      · rw [if_pos hw] at h1 ⊢
        refine opIn_of_op (hnd i o ho) ?_
        exact Oper.wp_mono (fun a w hh => anyIn_of_any hnd hQ fuel _ a w hh) (h1.resolve_right (fun hh => hQ hh.2))
      · rw [if_neg hw] at h1 ⊢
        exact ⟨fun _ _ => trivial, anyIn_of_any hnd hQ fuel _ _ _ h1⟩

/-- No operation is a defer statement. -/
def noDefer (l : List Oper) : Bool := l.all fun o => match o.op with | .defer _ => false | _ => true
theorem noDefer_get {l : List Oper} (h : noDefer l = true) : ∀ (i : Nat) o, l.toArray[i]? = some o → ∀ c, o.op ≠ .defer c := by
  intro i o ho c hc
  have hm : o ∈ l := by rw [List.getElem?_toArray] at ho; exact List.mem_of_getElem? ho
  have := List.all_eq_true.1 h o hm
  rw [hc] at this
  cases this

/-- An operation that does nothing, in the place of another. -/
def mask (o : Oper) : Oper := { dst := none, op := .move (.const undef), type := o.type, pos := o.pos, after := o.after, guard := none }
def maskLast (n : Nat) (l : List Oper) : List Oper := l.take n ++ (l.drop n).map mask
/-- Operation n is the last, waits for all others, and every operation waits for earlier ones only. -/
def qtB (n : Nat) (l : List Oper) : Bool :=
  decide (l.length = n + 1) && Region.sinkB .any l.toArray n && (List.range l.length).all (fun i => match l[i]? with | some o => o.after.all fun e => decide (e.on < i) | none => true) &&
  Region.lexB .any (maskLast n l).toArray && ((l.drop n).all fun o => o.guard.isNone)

theorem maskLast_get {n : Nat} {l : List Oper} (i : Nat) : (maskLast n l)[i]? = if i < n then l[i]? else (l[i]?).map mask := by
  unfold maskLast
  by_cases h : i < (l.take n).length
  · rw [List.getElem?_append_left h]
    have : i < n := by rw [List.length_take] at h; omega
    rw [if_pos this, List.getElem?_take, if_pos this]
  · rw [List.getElem?_append_right (by omega), List.getElem?_map, List.getElem?_drop]
    rw [List.length_take] at h ⊢
    by_cases hi : i < n
    · rw [if_pos hi]
      have : l.length ≤ i := by omega
      rw [List.getElem?_eq_none (by omega : l.length ≤ n + (i - min n l.length)), List.getElem?_eq_none this]; rfl
    · rw [if_neg hi]
      by_cases hn : n ≤ l.length
      · rw [show n + (i - min n l.length) = i by omega]
      · rw [List.getElem?_eq_none (by omega : l.length ≤ n + (i - min n l.length)), List.getElem?_eq_none (by omega : l.length ≤ i)]
theorem maskLast_length (n : Nat) (l : List Oper) : (maskLast n l).length = l.length := by simp [maskLast]; omega
theorem ready_mask (md : Region.Mode) (n : Nat) (l : List Oper) (listed : Array Bool) : Region.ready md (maskLast n l).toArray listed = Region.ready md l.toArray listed := by
  unfold Region.ready
  simp only [List.size_toArray, maskLast_length, List.getElem?_toArray, maskLast_get]
  congr 1
  funext i
  by_cases h : i < n
  · rw [if_pos h]
  · rw [if_neg h]
    cases l[i]? <;> rfl

theorem wpQuiet_append {P : Program} {ops : Array Oper} {C : World → Prop} {Q : Act → Prop} : ∀ {l1 l2 : List Oper} {a : Act}, wpQuiet P ops C (fun a => wpQuiet P ops C Q l2 a) l1 a → wpQuiet P ops C Q (l1 ++ l2) a
  | [], _, _, h => h
  | o :: l1, l2, a, h => by
    rw [List.cons_append]
    unfold wpQuiet at h ⊢
    split
    · rename_i hw
      rw [if_pos hw] at h
      exact Oper.quiet_mono (fun a hh => wpQuiet_append hh) h
    · rename_i hw
      rw [if_neg hw] at h
      exact wpQuiet_append h

theorem wpQuiet_mono' {P : Program} {ops : Array Oper} {C : World → Prop} {Q Q' : Act → Prop} (hq : ∀ a, Q a → Q' a) : ∀ {l : List Oper} {a : Act}, wpQuiet P ops C Q l a → wpQuiet P ops C Q' l a
  | [], _, h => hq _ h
  | o :: l, a, h => by
    unfold wpQuiet at h ⊢
    split
    · rename_i hw
      rw [if_pos hw] at h
      exact Oper.quiet_mono (fun a hh => wpQuiet_mono' hq hh) h
    · rename_i hw
      rw [if_neg hw] at h
      exact wpQuiet_mono' hq h

theorem any_of_quiet_last {P : Program} {C : World → Prop} {Qa : Act → Prop} {Q : Exit → Act → World → Prop} {n : Nat} {l : List Oper} {last : Oper} (hlen : l.length = n + 1) (hlast : l[n]? = some last) (hg : last.guard = none)
    (hs : Region.sinkB .any l.toArray n = true) (hback : ∀ (i : Nat) (o : Oper), l[i]? = some o → ∀ e ∈ o.after, e.on < i)
    (hQ : ∀ a w, C w → Qa a → last.wp P a w (fun a w => Q .normal a w) Q) (hng : ∀ (i : Nat) (o : Oper), l[i]? = some o → ∀ tmps, Region.wanted o (yielded (maskLast n l).toArray tmps) = Region.wanted o (yielded l.toArray tmps)) :
    ∀ (fuel : Nat) (listed : Array Bool) (a : Act) (w : World), HeadInv .any l.toArray n listed → C w → wpAnyQ P .any (maskLast n l).toArray C Qa fuel listed a → 1 ≤ fuel → wpAny P .any l.toArray Q fuel listed a w
  | 0, _, _, _, _, _, _, h1 => absurd h1 (by omega)
  | fuel + 1, listed, a, w, inv, hC, h, _ => by
    have hc : Region.chainB .any l.toArray n = true := by
      refine List.all_eq_true.2 fun t ht => ?_
      rw [List.mem_range, List.size_toArray] at ht
      simp only [Bool.or_eq_true, decide_eq_true_eq]
      left; omega
    have hn : n < l.toArray.size := by simp; omega
    -- something is ready
    have hne : Region.ready .any l.toArray listed ≠ [] := by
      have key : ∀ k, k < l.length → listed.getD k true = false → ∃ j, j ∈ Region.ready .any l.toArray listed := by
        intro k
        induction k using Nat.strongRecOn with
        | _ k ih =>
          intro hk hun
          by_cases hall : ∀ e ∈ (l[k]'hk).after, Region.binds .any e = true → listed.getD e.on false = true
          · exact ⟨k, mem_ready.2 ⟨hun, l[k], by rw [List.getElem?_toArray, List.getElem?_eq_getElem hk], hall⟩⟩
          · obtain ⟨e, he⟩ := Classical.not_forall.1 hall
            obtain ⟨he1, he2⟩ := Classical.not_imp.1 he
            obtain ⟨_, he3⟩ := Classical.not_imp.1 he2
            have hlt := hback k l[k] (List.getElem?_eq_getElem hk) e he1
            have hsz : e.on < listed.size := by rw [inv.size]; simp; omega
            exact ih e.on hlt (by omega) (getD_in hsz (by simpa using he3))
      obtain ⟨j, hj⟩ := key n (by omega) (inv.tail n (Nat.le_refl _) hn)
      intro h0
      rw [h0] at hj; cases hj
    refine ⟨fun h0 => absurd h0 hne, fun i hi => ?_⟩
    have hi' : i ∈ Region.ready .any (maskLast n l).toArray listed := by rw [ready_mask]; exact hi
    have hq := h.2 i hi'
    obtain ⟨hiun, oi, hoi, _⟩ := mem_ready.1 hi
    have hilt : i < l.length := by have := (Array.getElem?_eq_some_iff.1 hoi).1; simpa using this
    by_cases hin : i < n
    · have hoi' : (maskLast n l).toArray[i]? = some oi := by rw [List.getElem?_toArray, maskLast_get, if_pos hin, ← List.getElem?_toArray]; exact hoi
      have hq2 : qOp P l.toArray C i (wpAnyQ P .any (maskLast n l).toArray C Qa fuel (listed.setIfInBounds i true)) a := by
        unfold qOp at hq ⊢
        rw [hoi'] at hq
        rw [hoi]
        simp only at hq ⊢
        rw [hng i oi (by simpa using hoi)] at hq
        exact hq
      have hf : 1 ≤ fuel := by
        cases fuel with
        | succ f => omega
        | zero =>
          obtain ⟨v, hy, hK⟩ := yieldsIn_of_qOp hoi hq2
          have hnr := hK.1
          rw [ready_mask] at hnr
          have inv2 := inv.set hi hin
          have key : ∀ k, k < l.length → (listed.setIfInBounds i true).getD k true = false → ∃ j, j ∈ Region.ready .any l.toArray (listed.setIfInBounds i true) := by
            intro k
            induction k using Nat.strongRecOn with
            | _ k ih =>
              intro hk hun
              by_cases hall : ∀ e ∈ (l[k]'hk).after, Region.binds .any e = true → (listed.setIfInBounds i true).getD e.on false = true
              · exact ⟨k, mem_ready.2 ⟨hun, l[k], by rw [List.getElem?_toArray, List.getElem?_eq_getElem hk], hall⟩⟩
              · obtain ⟨e, he⟩ := Classical.not_forall.1 hall
                obtain ⟨he1, he2⟩ := Classical.not_imp.1 he
                obtain ⟨_, he3⟩ := Classical.not_imp.1 he2
                have hlt := hback k l[k] (List.getElem?_eq_getElem hk) e he1
                have hsz : e.on < (listed.setIfInBounds i true).size := by rw [inv2.size]; simp; omega
                exact ih e.on hlt (by omega) (getD_in hsz (by simpa using he3))
          obtain ⟨j, hj⟩ := key n (by omega) (inv2.tail n (Nat.le_refl _) hn)
          rw [hnr] at hj; cases hj
      exact wpOp_of_qOp hC (fun a' w' hC' hK => any_of_quiet_last hlen hlast hg hs hback hQ hng fuel _ a' w' (inv.set hi hin) hC' hK hf) hq2
    · obtain rfl : i = n := by omega
      have hol : oi = last := by
        rw [List.getElem?_toArray, hlast] at hoi
        exact (Option.some.inj hoi).symm
      subst hol
      -- all others are listed
      have hall : ∀ j, j < i → listed.getD j true = true := by
        intro j hj
        cases hb : listed.getD j true with
        | true => rfl
        | false => exact absurd hi (tail_waits hs hc hn inv _ j rfl hj hb i (Nat.le_refl _))
      have hend : Region.ready .any l.toArray (listed.setIfInBounds i true) = [] := by
        cases hR : Region.ready .any l.toArray (listed.setIfInBounds i true) with
        | nil => rfl
        | cons j r =>
          have hj : j ∈ Region.ready .any l.toArray (listed.setIfInBounds i true) := by rw [hR]; simp
          obtain ⟨hjun, oj, hoj, _⟩ := mem_ready.1 hj
          have hjlt : j < l.length := by have := (Array.getElem?_eq_some_iff.1 hoj).1; simpa using this
          by_cases hji : i = j
          · subst hji
            have : i < listed.size := by rw [inv.size]; simpa using hilt
            simp [this] at hjun
          · rw [getD_set_ne true hji] at hjun
            rw [hall j (by omega)] at hjun; cases hjun
      have hKa : Qa a := by
        unfold qOp at hq
        have hml : (maskLast i l).toArray[i]? = some (mask oi) := by rw [List.getElem?_toArray, maskLast_get, if_neg (by omega), hlast]; rfl
        rw [hml] at hq
        simp only [Region.wanted, mask, if_true] at hq
        obtain ⟨v, _, hK⟩ := hq
        have hK' : wpAnyQ P .any (maskLast i l).toArray C Qa fuel (listed.setIfInBounds i true) a := hK
        cases fuel with
        | zero => exact hK'.2
        | succ f => exact hK'.1 (by rw [ready_mask]; exact hend)
      unfold wpOp
      rw [hoi]
      simp only [Region.wanted, hg, if_true]
      refine .inl (Oper.wp_mono (fun a' w' hh => ?_) (hQ a w hC hKa))
      cases fuel with
      | zero => exact ⟨hend, hh⟩
      | succ f => exact ⟨fun _ => hh, fun j hj => by rw [hend] at hj; cases hj⟩

/-- No operation is guarded. -/
def noGuard (l : List Oper) : Bool := l.all fun o => o.guard.isNone
theorem noGuard_get {l : List Oper} (h : noGuard l = true) {i : Nat} {o : Oper} (ho : l[i]? = some o) : o.guard = none := by
  have := List.all_eq_true.1 h o (List.mem_of_getElem? ho)
  simpa using this

/-- Reads and calls that draw at most, ahead of one last operation: any order. -/
theorem any_qtail {P : Program} {Q : Exit → Act → World → Prop} {a : Act} {w : World} {l : List Oper} (n : Nat) (hB : qtB n l = true) (hg : noGuard l = true)
    (h : wpQuiet P (maskLast n l).toArray (fun w' => ∃ k, w' = w.drewN k) (fun a' => ∀ k, wpList P l.toArray Q (l.drop n) a' (w.drewN k)) (l.take n) a) (hQ : ¬ LetsOut Q) :
    wpAny P .any l.toArray Q l.toArray.size (Array.replicate l.toArray.size false) a w.drew := by
  simp only [qtB, Bool.and_eq_true, decide_eq_true_eq] at hB
  obtain ⟨⟨⟨⟨hlen, hs⟩, hb⟩, hlex⟩, _⟩ := hB
  have hback : ∀ (i : Nat) (o : Oper), l[i]? = some o → ∀ e ∈ o.after, e.on < i := by
    intro i o ho e he
    have := List.all_eq_true.1 hb i (List.mem_range.2 (List.getElem?_eq_some_iff.1 ho).1)
    rw [ho] at this
    simp only at this
    exact of_decide_eq_true (Array.all_eq_true'.1 this e he)
  have hlt : n < l.length := by omega
  have hlast : l[n]? = some l[n] := List.getElem?_eq_getElem hlt
  have hdrop : l.drop n = [l[n]] := by rw [List.drop_eq_getElem_cons hlt, List.drop_eq_nil_of_le (by omega)]
  have hgl : l[n].guard = none := noGuard_get hg hlast
  have start : HeadInv .any l.toArray n (Array.replicate l.toArray.size false) :=
    ⟨by simp, fun j oj _ hh => (by rw [getD_replicate_false] at hh; cases hh), fun t _ ht => getD_in (by simpa using ht) (getD_replicate_false _ _)⟩
  refine any_of_quiet_last (C := fun w' => ∃ k, w' = w.drewN k) (Qa := fun a' => ∀ k, wpList P l.toArray Q (l.drop n) a' (w.drewN k)) hlen hlast hgl hs hback ?_ ?_ _ _ _ _ start ⟨1, rfl⟩ ?_ (by simp; omega)
  · rintro a w' ⟨k, rfl⟩ hh
    have h1 := hh k
    rw [hdrop] at h1
    unfold wpList at h1
    rw [if_pos (by simp [Region.wanted, hgl])] at h1
    exact Oper.wp_mono (fun a w hh => hh) (h1.resolve_right (fun hh => hQ hh.2))
  · intro i o ho tmps
    simp [Region.wanted, noGuard_get hg ho]
  · simp only [Region.lexB, Bool.and_eq_true] at hlex
    have hml : (maskLast n l) = l.take n ++ [mask l[n]] := by rw [maskLast, hdrop]; rfl
    have hw : wpQuiet P (maskLast n l).toArray (fun w' => ∃ k, w' = w.drewN k) (fun a' => ∀ k, wpList P l.toArray Q (l.drop n) a' (w.drewN k)) (maskLast n l) a := by
      conv => arg 5; rw [hml]
      refine wpQuiet_append ?_
      refine wpQuiet_mono' ?_ h
      intro a' hh
      unfold wpQuiet
      rw [if_pos (by simp [Region.wanted, mask])]
      exact ⟨undef, fun w' _ => ⟨rfl, rfl⟩, hh⟩
    have := wpAnyQ_lex (C := fun w' => ∃ k, w' = w.drewN k) (md := .any) hlex.1 (maskLast n l) 0 (Array.replicate (maskLast n l).toArray.size false) a (by simp) (by simpa using hlex.2) hw
    simpa [maskLast_length] using this

theorem wpIn_region_qtail {P : Program} {l0 id : Nat} {Q : Exit → Act → World → Prop} {a : Act} {w : World} {l : List Oper} (n : Nat) (hm : P.follows .mixedOrders = true) (hB : qtB n l = true) (hg : noGuard l = true)
    (hd : noDefer l = true) (hQ : ¬ LetsOut Q) (h : ∀ ops', wpQuiet P ops' (fun w' => ∃ k, w' = w.drewN k) (fun a' => ∀ k, wpList P l.toArray Q (l.drop n) a' (w.drewN k)) (l.take n) a) :
    (Code.region id l.toArray true).wpIn (Fence.wide.inRound l0) 0 P Q a w :=
  wpIn_region_any hm (anyIn_of_any (noDefer_get hd) hQ _ _ _ _ (any_qtail n hB hg (h _) hQ))
end Go.Proofs.YtfihpofdoffclaaGreatDoor

/- (*strings.Builder).String of a builder that holds a byte. -/
namespace Go.Proofs.YtfihpofdoffclaaGreatDoor
open Go.RowKit

theorem Only.freeze {D : Nat → Prop} {A B : World} (h : Only D A B) {p : Addr} (hp : D p.block) (n : Nat) : Only D A (B.freeze p n) := by
  unfold World.freeze
  split
  · exact h
  · exact ⟨h.os, h.tape, h.output, by simpa using h.size, fun i hi hd => by
      rw [← h.same i hi hd]
      simp only [Array.getElem?_modify]
      have hne : ¬ p.block = i := by rintro rfl; exact hd hp
      rw [if_neg hne]⟩

set_option maxRecDepth 100000 in
set_option maxHeartbeats 2000000 in
theorem bString {w : World} {b : Nat} {p v : Value} {l : List UInt8} (h : BA w b p v (Lib.byteCells l)) (h0 : l ≠ []) :
    Calls Tryz.prog 83 #[.pointer (some ⟨b, 0, none⟩)] w fun e w' => e = .returned (.string ⟨l.toArray⟩) ∧ Only (fun k => v.ownBlock = some k) w w' := by
  obtain ⟨hbk, hown, hne⟩ := h
  have hl0 : l.length ≠ 0 := by simpa using h0
  rw [Lib.byteCells_length] at hown
  obtain ⟨g, cap, cur, rfl, hbg, hg, hnc, hcm, hcs, htake⟩ : ∃ g cap cur, v = .slice (some ⟨g, 0, none⟩) l.length cap ∧ 0 ≤ g ∧ w.heap[g]? = some (.cells cur 5 (0, 0)) ∧ l.length ≤ cap ∧ cap ≤ maxLen ∧ cur.size = cap * 1 ∧ cur.toList.take (l.length * 1) = Lib.byteCells l := by
    rcases hown.2 with ⟨_, hz⟩ | ⟨g, cap, cur, hv, r⟩
    · exact absurd hz hl0
    · exact ⟨g, cap, cur, hv, r⟩
  have c1 : w.drew.cell? ⟨b, 1, none⟩ = some (.slice (some ⟨g, 0, none⟩) l.length cap) := by
    have : w.drew.heap[b]? = some (.cells #[p, .slice (some ⟨g, 0, none⟩) l.length cap] 118 (0, 0)) := hbk
    rw [Lib.cell_of_heap this]; rfl
  have hSD : (Builtin.unsafeSliceData_ #[52] 169 #[.slice (some ⟨g, 0, none⟩) l.length cap]).run Tryz.prog w.drew = .ok (.pointer (some ⟨g, 0, none⟩)) w.drew :=
    Lib.run_unsafeSliceData_row _ _ _ _ _ _ (by omega)
  have hUS : (Builtin.unsafeString_ #[169, 3] 9 #[.pointer (some ⟨g, 0, none⟩), .int .i64 l.length]).run Tryz.prog w.drew = .ok (.string ⟨l.toArray⟩) (w.drew.freeze ⟨g, 0, none⟩ l.length) := by
    refine Lib.run_unsafeString_row w.drew 169 3 9 5 (by kernel_rfl) (by kernel_rfl) g cur.size (by have hg' : w.drew.heap[g]? = some (.cells cur 5 (0, 0)) := hg; simp [World.shape?, hg']) l h0 (by omega) (by unfold maxLen at hcm; omega) ?_
    intro j x hx
    have := hown.cells (g := g) rfl j (.int .u8 x.toNat) (by simp [Lib.byteCells, hx])
    exact this
  clear hcs htake hown
  go_enter Tryz.func83, Tryz.ntmps83
  go_wp2
  go_region
  all_goals (go_wp2; go_ret; exact ⟨rfl, ((Only.refl (fun k => some g = some k) w).drewN 1).freeze (p := ⟨g, 0, none⟩) rfl _⟩)
end Go.Proofs.YtfihpofdoffclaaGreatDoor

/- Labels by first occurrence: plain lists. -/
namespace Go.Proofs.YtfihpofdoffclaaGreatDoor
section
variable {κ : Type} [DecidableEq κ]

/-- The different keys, in the order of their first occurrence, behind those that were seen. -/
def dd : List κ → List κ → List κ
  | seen, [] => seen
  | seen, k :: r => dd (if k ∈ seen then seen else seen ++ [k]) r
/-- Labels. -/
def lblGo : List κ → List κ → List Nat
  | _, [] => []
  | seen, k :: r => seen.idxOf k :: lblGo (if k ∈ seen then seen else seen ++ [k]) r
def lbl (ks : List κ) : List Nat := lblGo [] ks

theorem dd_sub : ∀ {ks seen : List κ} {x : κ}, x ∈ seen → x ∈ dd seen ks
  | [], _, _, h => h
  | k :: r, seen, x, h => by rw [dd]; exact dd_sub (by split; exact h; exact List.mem_append_left _ h)
theorem dd_mem : ∀ {ks seen : List κ} {x : κ}, x ∈ ks → x ∈ dd seen ks
  | k :: r, seen, x, h => by
    rw [dd]
    rcases List.mem_cons.1 h with rfl | h
    · exact dd_sub (by split; assumption; simp)
    · exact dd_mem h
theorem mem_dd : ∀ {ks seen : List κ} {x : κ}, x ∈ dd seen ks → x ∈ seen ∨ x ∈ ks
  | [], _, _, h => .inl h
  | k :: r, seen, x, h => by
    rw [dd] at h
    rcases mem_dd h with h | h
    · split at h
      · exact .inl h
      · rcases List.mem_append.1 h with h | h
        · exact .inl h
        · exact .inr (by rw [List.mem_singleton.1 h]; simp)
    · exact .inr (by simp [h])
theorem dd_nodup : ∀ {ks seen : List κ}, seen.Nodup → (dd seen ks).Nodup
  | [], _, h => h
  | k :: r, seen, h => by
    rw [dd]
    refine dd_nodup ?_
    split
    · exact h
    · rename_i hk
      rw [List.nodup_append]
      refine ⟨h, by simp, fun a ha b hb => ?_⟩
      rw [List.mem_singleton.1 hb]
      rintro rfl
      exact hk ha
theorem dd_pre : ∀ (ks seen : List κ), ∃ t, dd seen ks = seen ++ t
  | [], seen => ⟨[], by simp [dd]⟩
  | k :: r, seen => by
    rw [dd]
    split
    · exact dd_pre r seen
    · obtain ⟨t, ht⟩ := dd_pre r (seen ++ [k])
      exact ⟨[k] ++ t, by rw [ht, List.append_assoc]⟩
theorem dd_app : ∀ (ks ks' seen : List κ), dd seen (ks ++ ks') = dd (dd seen ks) ks'
  | [], _, _ => rfl
  | k :: r, ks', seen => by rw [List.cons_append, dd, dd, dd_app r]
theorem dd_le : ∀ (ks seen : List κ), (dd seen ks).length ≤ seen.length + ks.length
  | [], seen => by simp [dd]
  | k :: r, seen => by
    rw [dd]
    refine Nat.le_trans (dd_le r _) ?_
    split <;> simp <;> omega
theorem dd_idem : ∀ {ks seen : List κ}, (∀ x ∈ ks, x ∈ seen) → dd seen ks = seen
  | [], _, _ => rfl
  | k :: r, seen, h => by
    rw [dd, if_pos (h k (by simp))]
    exact dd_idem fun x hx => h x (by simp [hx])
theorem idxOf_pre {seen t : List κ} {k : κ} (h : k ∈ seen) : (seen ++ t).idxOf k = seen.idxOf k := by
  rw [List.idxOf_append, if_pos h]
theorem lblGo_eq : ∀ (ks seen : List κ), lblGo seen ks = ks.map (fun k => (dd seen ks).idxOf k)
  | [], _ => rfl
  | k :: r, seen => by
    rw [lblGo, List.map_cons, dd, lblGo_eq r]
    congr 1
    by_cases h : k ∈ seen
    · rw [if_pos h]
      obtain ⟨t, ht⟩ := dd_pre r seen
      rw [ht, idxOf_pre h]
    · rw [if_neg h]
      obtain ⟨t, ht⟩ := dd_pre r (seen ++ [k])
      rw [ht, List.append_assoc, List.idxOf_append, if_neg h]
      have : (([k] ++ t).idxOf k) = 0 := by simp
      rw [this, List.idxOf_eq_length h, Nat.zero_add]
theorem lbl_length (ks : List κ) : (lbl ks).length = ks.length := by rw [lbl, lblGo_eq]; simp
theorem lbl_getD {ks : List κ} {i : Nat} (h : i < ks.length) : (lbl ks).getD i 0 = (dd [] ks).idxOf ks[i] := by
  rw [lbl, lblGo_eq]; simp [h]
theorem idxOf_inj {l : List κ} {x y : κ} (hx : x ∈ l) (hy : y ∈ l) (h : l.idxOf x = l.idxOf y) : x = y := by
  have h1 := List.getElem_idxOf (List.idxOf_lt_length_of_mem hx)
  have h2 := List.getElem_idxOf (List.idxOf_lt_length_of_mem hy)
  rw [← h1, ← h2]
  congr 1
theorem lbl_iff {ks : List κ} {i j : Nat} (hi : i < ks.length) (hj : j < ks.length) : (lbl ks).getD i 0 = (lbl ks).getD j 0 ↔ ks[i] = ks[j] := by
  rw [lbl_getD hi, lbl_getD hj]
  exact ⟨idxOf_inj (dd_mem (List.getElem_mem hi)) (dd_mem (List.getElem_mem hj)), fun h => by rw [h]⟩
theorem lbl_lt {ks : List κ} {i : Nat} (hi : i < ks.length) : (lbl ks).getD i 0 < (dd [] ks).length := by
  rw [lbl_getD hi]; exact List.idxOf_lt_length_of_mem (dd_mem (List.getElem_mem hi))
end

theorem mem_pairs {κ κ' : Type} {S : List (κ × κ')} {p : κ × κ'} (h : ∀ q ∈ S, q.1 = p.1 ↔ q.2 = p.2) : p.1 ∈ S.map Prod.fst ↔ p.2 ∈ S.map Prod.snd := by
  rw [List.mem_map, List.mem_map]
  exact ⟨fun ⟨q, hq, e⟩ => ⟨q, hq, (h q hq).1 e⟩, fun ⟨q, hq, e⟩ => ⟨q, hq, (h q hq).2 e⟩⟩
section
variable {κ κ' : Type} [DecidableEq κ] [DecidableEq κ']
theorem idxOf_pairs : ∀ {S : List (κ × κ')} {p : κ × κ'}, (∀ q ∈ S, q.1 = p.1 ↔ q.2 = p.2) → (S.map Prod.fst).idxOf p.1 = (S.map Prod.snd).idxOf p.2
  | [], _, _ => rfl
  | q :: S, p, h => by
    have h1 := h q (by simp)
    have h2 := idxOf_pairs (S := S) (p := p) fun q hq => h q (by simp [hq])
    rw [List.map_cons, List.map_cons, List.idxOf_cons, List.idxOf_cons, h2]
    by_cases e : q.1 = p.1
    · have e' := h1.1 e
      simp [e, e']
    · have e' : ¬ q.2 = p.2 := fun h => e (h1.2 h)
      rw [show (q.1 == p.1) = false by simpa using e, show (q.2 == p.2) = false by simpa using e']
theorem mem_skip {α : Type} {S zs : List α} {p x : α} (h : x ∈ S ++ zs) : x ∈ S ++ p :: zs := by
  rcases List.mem_append.1 h with h | h
  · exact List.mem_append_left _ h
  · exact List.mem_append_right _ (List.mem_cons_of_mem _ h)
theorem mem_shift {α : Type} {S zs : List α} {p x : α} (h : x ∈ S ++ [p] ++ zs) : x ∈ S ++ p :: zs := by
  rwa [List.append_assoc] at h
theorem lblGo_pairs : ∀ {zs S : List (κ × κ')}, (∀ p ∈ S ++ zs, ∀ q ∈ S ++ zs, q.1 = p.1 ↔ q.2 = p.2) → lblGo (S.map Prod.fst) (zs.map Prod.fst) = lblGo (S.map Prod.snd) (zs.map Prod.snd)
  | [], _, _ => rfl
  | p :: zs, S, h => by
    have hp : ∀ q ∈ S, q.1 = p.1 ↔ q.2 = p.2 := fun q hq => h p (by simp) q (by simp [hq])
    rw [List.map_cons, List.map_cons, lblGo, lblGo, idxOf_pairs hp]
    congr 1
    by_cases hm : p.1 ∈ S.map Prod.fst
    · rw [if_pos hm, if_pos ((mem_pairs hp).1 hm)]
      exact lblGo_pairs fun p' hp' q hq => h p' (mem_skip hp') q (mem_skip hq)
    · rw [if_neg hm, if_neg (fun h => hm ((mem_pairs hp).2 h))]
      have := lblGo_pairs (zs := zs) (S := S ++ [p]) fun p' hp' q hq => h p' (mem_shift hp') q (mem_shift hq)
      rw [List.map_append, List.map_append] at this
      exact this
/-- Labels depend only on which keys are equal. -/
theorem lbl_congr {ks : List κ} {ks' : List κ'} (hl : ks.length = ks'.length) (h : ∀ i j (hi : i < ks.length) (hj : j < ks.length), ks[i] = ks[j] ↔ ks'[i]'(hl ▸ hi) = ks'[j]'(hl ▸ hj)) : lbl ks = lbl ks' := by
  have key := lblGo_pairs (zs := ks.zip ks') (S := []) (by
    intro p hp q hq
    simp only [List.nil_append] at hp hq
    obtain ⟨i, hi, rfl⟩ := List.mem_iff_getElem.1 hp
    obtain ⟨j, hj, rfl⟩ := List.mem_iff_getElem.1 hq
    rw [List.length_zip] at hi hj
    rw [List.getElem_zip, List.getElem_zip]
    exact h j i (by omega) (by omega))
  rw [List.map_nil, List.map_nil, List.map_fst_zip (by omega), List.map_snd_zip (by omega)] at key
  exact key
end
end Go.Proofs.YtfihpofdoffclaaGreatDoor

/- Maps as lists of pairs. -/
namespace Go.Proofs.YtfihpofdoffclaaGreatDoor
open Go.RowKit Go.ChangeMaps Go.MapKept Go.WideMaps

section
variable {κ ν : Type}
/-- Block b is the map that holds the pairs of m, in the order in which they came. -/
def MX (kv : κ → Value) (vv : ν → Value) (w : World) (b : Nat) (m : List (κ × ν)) : Prop :=
  ∃ es clock, w.heap[b]? = some (.map es clock) ∧ es.toList.map (fun e => (e.key, e.val)) = m.map (fun p => (kv p.1, vv p.2))
/-- Keys of type K. -/
structure KeyX (P : Program) (K : TypeId) (kv : κ → Value) (S : κ → Prop) : Prop where
  law : Maps.Keyed P K
  has : ∀ x, S x → ∃ l, keyOf P K (kv x) = some l
  inj : ∀ x y, S x → S y → kv x = kv y → x = y
variable {P : Program} {K E M : TypeId} {kv : κ → Value} {vv : ν → Value} {S : κ → Prop} {m : List (κ × ν)} {x : κ} {w : World} {b : Nat}

theorem MX.lt (h : MX kv vv w b m) : b < w.heap.size := by
  obtain ⟨es, clock, hb, _⟩ := h; exact (Array.getElem?_eq_some_iff.1 hb).1
theorem MX.keep {w' : World} (h : MX kv vv w b m) (hb : w'.heap[b]? = w.heap[b]?) : MX kv vv w' b m := by
  obtain ⟨es, clock, h1, h2⟩ := h; exact ⟨es, clock, hb.trans h1, h2⟩
theorem MX.made (w : World) : MX kv vv (w.alloc (.map #[] 0)) w.heap.size [] := ⟨#[], 0, heap_alloc_new w _, rfl⟩
theorem MX.find (hX : KeyX P K kv S) (hm : ∀ p ∈ m, S p.1) (hx : S x) {l : List MapEntry} (h : l.map (fun e => (e.key, e.val)) = m.map (fun p => (kv p.1, vv p.2))) (w : World) :
    (x ∉ m.map Prod.fst ∧ (Instr.findKey K (kv x) l).run P w = .ok none w) ∨ (∃ j v, (x, v) ∈ m ∧ (Instr.findKey K (kv x) l).run P w = .ok (some (j, vv v)) w ∧ m[j]? = some (x, v)) := by
  obtain ⟨lx, hlx⟩ := hX.has x hx
  have hk : ∀ (j : Nat) (e : MapEntry), l[j]? = some e → ∃ p : κ × ν, m[j]? = some p ∧ e.key = kv p.1 ∧ e.val = vv p.2 := by
    intro j e he
    have h1 : (l.map (fun e : MapEntry => (e.key, e.val)))[j]? = some (e.key, e.val) := by rw [List.getElem?_map, he]; rfl
    rw [h, List.getElem?_map] at h1
    cases hp : m[j]? with
    | none => rw [hp] at h1; cases h1
    | some p =>
      rw [hp] at h1
      simp only [Option.map_some, Option.some.injEq, Prod.mk.injEq] at h1
      exact ⟨p, rfl, h1.1.symm, h1.2.symm⟩
  have hks : ∀ e ∈ l, ∃ k, keyOf P K e.key = some k := fun e he => by
    obtain ⟨j, hj⟩ := List.mem_iff_getElem?.1 he
    obtain ⟨p, hp, h1, _⟩ := hk j e hj
    rw [h1]; exact hX.has _ (hm p (List.mem_of_getElem? hp))
  rcases hX.law.find w hlx l hks with ⟨h1, h2⟩ | ⟨j, e, h1, h2, h3⟩
  · refine .inl ⟨fun hin => ?_, h1⟩
    obtain ⟨p, hp, rfl⟩ := List.mem_map.1 hin
    have : (kv p.1, vv p.2) ∈ l.map (fun e : MapEntry => (e.key, e.val)) := h ▸ List.mem_map_of_mem (f := fun p : κ × ν => (kv p.1, vv p.2)) hp
    obtain ⟨e, he, hek⟩ := List.mem_map.1 this
    injection hek with h3 _
    exact h2 e he h3
  · obtain ⟨q, hq, hq1, hq2⟩ := hk j e h2
    have hqx : q.1 = x := hX.inj _ _ (hm q (List.mem_of_getElem? hq)) hx (by rw [← hq1, h3])
    refine .inr ⟨j, q.2, ?_, by rw [h1, hq2], ?_⟩
    · rw [← hqx]; exact List.mem_of_getElem? hq
    · rw [hq, ← hqx]

/-- v, ok := m[x] and m[x]. -/
theorem MX.look {z : Value} (hX : KeyX P K kv S) (hM : P.underlying M = some (.map K E)) (hz : (zeroValue E).run P w = .ok z w) (h : MX kv vv w b m) (hm : ∀ p ∈ m, S p.1) (hx : S x) :
    (x ∉ m.map Prod.fst ∧ (Instr.lookup M (.map (some b)) (kv x) false).run P w = .ok z w ∧ (Instr.lookup M (.map (some b)) (kv x) true).run P w = .ok (.tuple #[z, .bool false]) w) ∨
    (∃ v, (x, v) ∈ m ∧ (Instr.lookup M (.map (some b)) (kv x) false).run P w = .ok (vv v) w ∧ (Instr.lookup M (.map (some b)) (kv x) true).run P w = .ok (.tuple #[vv v, .bool true]) w) := by
  obtain ⟨es, clock, hb, hk⟩ := h
  obtain ⟨lx, hlx⟩ := hX.has x hx
  have hc := fun e => hX.law.check w e hlx
  rcases MX.find hX hm hx hk w with ⟨h1, h2⟩ | ⟨j, v, h1, h2, _⟩
  · refine .inl ⟨h1, ?_, ?_⟩ <;> simp [Instr.lookup, run_underlying hM, MapKept.run_getObj_map hb, hc, h2, Result.andThen, hz]
  · refine .inr ⟨v, h1, ?_, ?_⟩ <;> simp [Instr.lookup, run_underlying hM, MapKept.run_getObj_map hb, hc, h2, Result.andThen]

/-- m[x] = v, x new. -/
theorem MX.put (hX : KeyX P K kv S) (hM : P.underlying M = some (.map K E)) (h : MX kv vv w b m) (hm : ∀ p ∈ m, S p.1) (hx : S x) (hn : x ∉ m.map Prod.fst) (v : ν) :
    ∃ o, (Instr.mapUpdate M (.map (some b)) (kv x) (vv v)).run P w = .ok () (setBlock w b o) ∧ MX kv vv (setBlock w b o) b (m ++ [(x, v)]) := by
  obtain ⟨es, clock, hb, hk⟩ := h
  obtain ⟨lx, hlx⟩ := hX.has x hx
  have hc := hX.law.check w false hlx
  rcases MX.find hX hm hx hk w with ⟨h1, h2⟩ | ⟨j, v', h1, _⟩
  · refine ⟨.map (es.push ⟨kv x, vv v, clock⟩) (clock + 1), ?_, _, _, heap_setBlock_same hb _, ?_⟩
    · simp [Instr.mapUpdate, run_underlying hM, MapKept.run_getObj_map hb, hc, h2, MapKept.run_setObj_map _ hb, Result.andThen, setBlock]
    · rw [Array.toList_push, List.map_append, hk, List.map_append]; rfl
  · exact absurd (List.mem_map.2 ⟨_, h1, rfl⟩) hn

/-- len(m). -/
theorem MX.len {ty : TypeId} (hM : P.underlying M = some (.map K E)) (h : MX kv vv w b m) : (Builtin.len_ #[M] ty #[.map (some b)]).run P w = .ok (.int .i64 (m.length : Int)) w := by
  obtain ⟨es, clock, hb, hk⟩ := h
  have hl : es.size = m.length := by have := congrArg List.length hk; simpa using this
  simp [Builtin.len_, run_underlying hM, MapKept.run_getObj_map hb, Result.andThen, goInt, hl]
end
/-- A turned block. -/
theorem setBlock_keep {w : World} {b k : Nat} (o : Obj) (h : k ≠ b) : (setBlock w b o).heap[k]? = w.heap[k]? := by
  simp only [setBlock]
  rw [Array.getElem?_setIfInBounds_ne (by omega)]
theorem setBlock_below {w0 w : World} {B b : Nat} (h : Below B w0 w) (hB : B ≤ b) (o : Obj) : Below B w0 (setBlock w b o) :=
  h.trans ⟨rfl, rfl, rfl, by simp [setBlock], fun k hk => setBlock_keep o (by omega)⟩
end Go.Proofs.YtfihpofdoffclaaGreatDoor

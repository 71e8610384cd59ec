/- Texts of this claim, put together: U3 U4 F0 U5. -/
import Derived.Test.YtfihpofdoffclaaGreatDoorZt
import Derived.Test.YtfihpofdoffclaaGreatDoorZl
import Derived.Test.YtfihpofdoffclaaGreatDoorZm
import Derived.Test.YtfihpofdoffclaaGreatDoorZs

/- The canonical form: it is well-formed, has the same words, is minimal and its own form. Plain lists. -/
namespace Go.Proofs.YtfihpofdoffclaaGreatDoor

theorem movesN_perm {a b : List (List (List Int))} (h : a.Perm b) : movesN a = movesN b := by
  induction h with
  | nil => rfl
  | cons x _ ih => simp only [movesN, List.map_cons, List.foldr_cons] at ih ⊢; omega
  | swap x y l => simp only [movesN, List.map_cons, List.foldr_cons]; omega
  | trans _ _ h1 h2 => omega
theorem movesN_pick {g : Nat → List (List Int)} : ∀ {n : Nat} {o : List Nat}, o.Nodup → (∀ i ∈ o, i < n) → movesN (o.map g) ≤ movesN ((List.range n).map g)
  | 0, o, _, h => by
    cases o with
    | nil => simp [movesN]
    | cons a r => exact absurd (h a (by simp)) (Nat.not_lt_zero _)
  | n + 1, o, hn, h => by
    rw [List.range_succ, List.map_append, movesN_app]
    by_cases hm : n ∈ o
    · have hp := List.perm_cons_erase hm
      rw [movesN_perm (hp.map g)]
      have ih := movesN_pick (g := g) (n := n) (o := o.erase n) (hn.erase n) fun i hi => by
        have h1 := (List.Nodup.mem_erase_iff hn).1 hi
        have h2 := h i h1.2
        omega
      simp only [movesN, List.map_cons, List.foldr_cons, List.map_nil, List.foldr_nil] at ih ⊢
      omega
    · have ih := movesN_pick (g := g) (n := n) (o := o) hn fun i hi => by
        have h2 := h i hi
        have : i ≠ n := fun e => hm (e ▸ hi)
        omega
      omega
theorem range_getD {α : Type} {l : List α} {d : α} : (List.range l.length).map (fun i => l.getD i d) = l := by
  refine List.ext_getElem (by simp) fun i h1 h2 => ?_
  rw [List.getElem_map, List.getElem_range, getD_eq h2]

section
/-- A small, well-formed adversary. -/
def SmA (n : Int) (ss : List (List (List Int))) : Prop := (∀ s ∈ ss, ∀ m ∈ s, m.length = 8) ∧ chkA n ss = 0 ∧ ss.length ≤ 90 ∧ movesN ss ≤ 90
variable {n : Int} {ss : List (List (List Int))}
/-- A state, and its number in the canonical form. -/
def CanR (ss : List (List (List Int))) (i k : Nat) : Prop := i < ss.length ∧ k < (ordC ss).1.length ∧ keyL (part ss) i = keyL (part ss) ((ordC ss).1.getD k 0)
theorem canS_len : (canS ss).length = (ordC ss).1.length := by rw [canS, formC, List.length_map]
theorem ordC_facts (hW : SmA n ss) : (∀ a, a < (ordC ss).1.length → ∀ m ∈ ss.getD ((ordC ss).1.getD a 0) [], keyL (part ss) (mvTo m) ∈ (ordC ss).1.map (keyL (part ss))) ∧ ((ordC ss).1.map (keyL (part ss))).Nodup ∧ (∃ t, (ordC ss).1 = 0 :: t) ∧ (ordC ss).1.length ≤ ss.length ∧ ∀ x ∈ (ordC ss).1, x < ss.length := by
  obtain ⟨h8, h0, hl, hm⟩ := id hW
  have hO := clsOK_of hW.1 hW.2.1 hW.2.2.1 hW.2.2.2
  obtain ⟨h1, h2, h3⟩ := ordC_eq hO
  refine ⟨srch_closed h1 (by omega) (fun a ha => absurd ha (Nat.not_lt_zero _)), srch_nodup h1 (by simp), ?_, h2, h3⟩
  obtain ⟨t, ht⟩ := srch_pre h1
  exact ⟨t, ht⟩
theorem canS_at (hW : SmA n ss) {k : Nat} (hk : k < (ordC ss).1.length) : (canS ss).getD k [] = (ss.getD ((ordC ss).1.getD k 0) []).map fun m => rdOf m ++ [((numK ((ordC ss).1.map (keyL (part ss))) (keyL (part ss) (mvTo m)) : Nat) : Int)] := by
  obtain ⟨h8, h0, hl, hm⟩ := id hW
  rw [canS, formC_K h8, formK, List.getD_eq_getElem?_getD, List.getElem?_map, List.getElem?_eq_getElem hk, getD_eq hk]; rfl
theorem rd_snoc {m : List Int} (hm8 : m.length = 8) (v : Nat) : rdOf (rdOf m ++ [(v : Int)]) = rdOf m ∧ mvTo (rdOf m ++ [(v : Int)]) = v ∧ (rdOf m ++ [(v : Int)]).getD 7 0 = (v : Int) ∧ (rdOf m ++ [(v : Int)]).length = 8 := by
  have hl7 : (rdOf m).length = 7 := by rw [rdOf, List.length_take, hm8]; rfl
  have h7 : (rdOf m ++ [(v : Int)]).getD 7 0 = (v : Int) := by rw [List.getD_eq_getElem?_getD, List.getElem?_append_right (by omega), hl7]; rfl
  refine ⟨?_, ?_, h7, by rw [List.length_append, hl7]; rfl⟩
  · show (rdOf m ++ [_]).take 7 = _
    rw [← hl7, List.take_left]
  · unfold mvTo; rw [h7]; rfl
theorem numK_key {x : Nat} (hx : keyL (part ss) x ∈ (ordC ss).1.map (keyL (part ss))) : numK ((ordC ss).1.map (keyL (part ss))) (keyL (part ss) x) < (ordC ss).1.length ∧ keyL (part ss) ((ordC ss).1.getD (numK ((ordC ss).1.map (keyL (part ss))) (keyL (part ss) x)) 0) = keyL (part ss) x := by
  rw [numK, if_pos hx]
  have h1 := ixOf_lt hx
  rw [List.length_map] at h1
  refine ⟨h1, ?_⟩
  have h2 := List.getElem_idxOf (List.idxOf_lt_length_of_mem hx)
  rw [List.getElem_map] at h2
  rw [getD_eq h1]
  exact h2
theorem mem_at (hW : SmA n ss) {i : Nat} {m : List Int} (hmm : m ∈ ss.getD i []) : m.length = 8 := by
  obtain ⟨h8, h0, hl, hm⟩ := id hW
  by_cases hi : i < ss.length
  · rw [getD_eq hi] at hmm; exact h8 _ (List.getElem_mem hi) m hmm
  · rw [List.getD_eq_getElem?_getD, List.getElem?_eq_none (by omega)] at hmm; cases hmm
theorem canSim (hW : SmA n ss) : SimR (CanR ss) ss (canS ss) := fun i k h => by
  obtain ⟨h8, h0, hl, hm⟩ := id hW
  obtain ⟨hi, hk, e⟩ := h
  obtain ⟨f1, f2, _, f4, f5⟩ := ordC_facts hW
  have hO := clsOK_of hW.1 hW.2.1 hW.2.2.1 hW.2.2.2
  have hok : (ordC ss).1.getD k 0 < ss.length := f5 _ (by rw [getD_eq hk]; exact List.getElem_mem hk)
  have hA := part_sim hO.toOK hO.2.2.1 i ((ordC ss).1.getD k 0) ⟨hi, hok, e⟩
  rw [canS_at hW hk]
  have hcl := f1 k hk
  have hmem : ∀ m ∈ ss.getD ((ordC ss).1.getD k 0) [], m.length = 8 := fun m hmm => mem_at hW hmm
  revert hA hcl hmem
  generalize ss.getD i [] = A
  generalize ss.getD ((ordC ss).1.getD k 0) [] = B
  intro hA hcl hmem
  induction A generalizing B with
  | nil => cases B with
    | nil => trivial
    | cons _ _ => exact hA.elim
  | cons a A ih => cases B with
    | nil => exact hA.elim
    | cons b B =>
      obtain ⟨⟨r1, r2⟩, r3⟩ := hA
      have h8b := hmem b (by simp)
      obtain ⟨q1, q2, _, _⟩ := rd_snoc h8b (numK ((ordC ss).1.map (keyL (part ss))) (keyL (part ss) (mvTo b)))
      obtain ⟨n1, n2⟩ := numK_key (hcl b (by simp))
      refine ⟨⟨?_, ?_, ?_, ?_⟩, ih B r3 (fun m hm' => hcl m (by simp [hm'])) fun m hm' => hmem m (by simp [hm'])⟩
      · rw [q1]; exact r1
      · exact r2.1
      · rw [q2]; exact n1
      · rw [q2, n2]; exact r2.2.2
theorem canS_mem (hW : SmA n ss) {s : List (List Int)} (hs : s ∈ canS ss) {m : List Int} (hms : m ∈ s) : m.length = 8 ∧ 0 ≤ m.getD 7 0 ∧ m.getD 7 0 < ((canS ss).length : Int) := by
  obtain ⟨h8, h0, hl, hm⟩ := id hW
  obtain ⟨k, hk, rfl⟩ := List.getElem_of_mem hs
  have hk' : k < (ordC ss).1.length := by rw [canS_len] at hk; exact hk
  have he := canS_at hW hk'
  rw [getD_eq hk] at he
  rw [he] at hms
  obtain ⟨m0, hm0, rfl⟩ := List.mem_map.1 hms
  obtain ⟨f1, _⟩ := ordC_facts hW
  obtain ⟨n1, _⟩ := numK_key (f1 k hk' m0 hm0)
  obtain ⟨_, _, q3, q4⟩ := rd_snoc (mem_at hW hm0) (numK ((ordC ss).1.map (keyL (part ss))) (keyL (part ss) (mvTo m0)))
  rw [q3, canS_len]
  exact ⟨q4, by omega, by omega⟩
theorem canS_lead (hW : SmA n ss) : LeadOK (canS ss) := fun _ hs _ hms => (canS_mem hW hs hms).2
theorem canS_len8 (hW : SmA n ss) : ∀ s ∈ canS ss, ∀ m ∈ s, m.length = 8 := fun _ hs _ hms => (canS_mem hW hs hms).1
theorem canS_moves (hW : SmA n ss) : movesN (canS ss) ≤ movesN ss := by
  obtain ⟨h8, h0, hl, hm⟩ := id hW
  obtain ⟨_, f2, _, _, f5⟩ := ordC_facts hW
  have h1 : movesN (canS ss) = movesN ((ordC ss).1.map fun i => ss.getD i []) := by
    unfold movesN
    congr 1
    rw [canS, formC, List.map_map, List.map_map]
    refine List.map_congr_left fun i _ => ?_
    show (formSt ss _ _ i).length = (ss.getD i []).length
    rw [formSt, List.length_map]
  have h2 := movesN_pick (g := fun i => ss.getD i []) (nodup_of_map f2) f5
  rw [range_getD] at h2
  omega
theorem canS_small (hW : SmA n ss) : 1 ≤ (canS ss).length ∧ (canS ss).length ≤ ss.length := by
  obtain ⟨_, _, ⟨t, ht⟩, f4, _⟩ := ordC_facts hW
  rw [canS_len]
  exact ⟨by rw [ht]; simp, f4⟩
theorem canR_zero (hW : SmA n ss) : CanR ss 0 0 := by
  obtain ⟨h8, h0, hl, hm⟩ := id hW
  obtain ⟨_, _, ⟨t, ht⟩, f4, _⟩ := ordC_facts hW
  refine ⟨?_, by rw [ht]; simp, by rw [ht]; rfl⟩
  rw [ht] at f4; simp at f4; omega
theorem canR_of (hW : SmA n ss) {k : Nat} (hk : k < (canS ss).length) : CanR ss ((ordC ss).1.getD k 0) k := by
  obtain ⟨_, _, _, _, f5⟩ := ordC_facts hW
  rw [canS_len] at hk
  exact ⟨f5 _ (by rw [getD_eq hk]; exact List.getElem_mem hk), hk, rfl⟩
theorem canS_chk (hW : SmA n ss) : chkA n (canS ss) = 0 := by
  obtain ⟨h8, h0, hl, hm⟩ := id hW
  obtain ⟨a1, _, _, _⟩ := chkA_facts h0
  obtain ⟨b1, b2⟩ := canS_small hW
  have b3 := canS_moves hW
  refine chkA_of a1 ⟨b1, by omega⟩ (by omega) (canS_lead hW) fun k hk => ?_
  have hr := canR_of hW hk
  exact StW.lock (canSim hW) hr (stW_of h0 _ hr.1)
theorem canS_cls (hW : SmA n ss) : ClsOK (canS ss) := by
  obtain ⟨h8, h0, hl, hm⟩ := id hW
  obtain ⟨b1, b2⟩ := canS_small hW
  have b3 := canS_moves hW
  exact clsOK_of (canS_len8 hW) (canS_chk hW) (by omega) (by omega)
/-- The same words. -/
theorem canS_alw (hW : SmA n ss) {i k : Nat} (hr : CanR ss i k) (w : List (List Int)) : alw ss w i ↔ alw (canS ss) w k :=
  alw_lock (canSim hW) (LeadOK.ofCls (clsOK_of hW.1 hW.2.1 hW.2.2.1 hW.2.2.2)) (canS_lead hW) hr
/-- The form of the form. -/
theorem canS_idem (hW : SmA n ss) : canS (canS ss) = canS ss := by
  obtain ⟨h8, h0, hl, hm⟩ := id hW
  refine (canS_lock (ρ := CanR ss) (clsOK_of hW.1 hW.2.1 hW.2.2.1 hW.2.2.2) (canS_cls hW) (ascL_of h0) (ascL_of (canS_chk hW)) (canSim hW) (fun s t h => ⟨h.1, ?_⟩) (canR_zero hW)).symm
  rw [canS_len]; exact h.2.1
theorem canR_inj (hW : SmA n ss) {i k i' k' : Nat} (h : CanR ss i k) (h' : CanR ss i' k') : keyL (part ss) i = keyL (part ss) i' ↔ k = k' := by
  obtain ⟨_, f2, _, _, _⟩ := ordC_facts hW
  rw [h.2.2, h'.2.2]
  constructor
  · intro e
    rw [getD_eq h.2.1, getD_eq h'.2.1] at e
    have hk := h.2.1
    have hk' := h'.2.1
    have e2 : ((ordC ss).1.map (keyL (part ss)))[k]'(by rw [List.length_map]; exact hk) = ((ordC ss).1.map (keyL (part ss)))[k']'(by rw [List.length_map]; exact hk') := by
      rw [List.getElem_map, List.getElem_map]; exact e
    have i1 := f2.idxOf_getElem k (by rw [List.length_map]; exact hk)
    have i2 := f2.idxOf_getElem k' (by rw [List.length_map]; exact hk')
    rw [e2] at i1
    rw [← i1, i2]
  · rintro rfl; rfl
/-- Its states are of different classes. -/
theorem canS_part (hW : SmA n ss) {k k' : Nat} (hk : k < (canS ss).length) (hk' : k' < (canS ss).length) (e : keyL (part (canS ss)) k = keyL (part (canS ss)) k') : k = k' := by
  obtain ⟨h8, h0, hl, hm⟩ := id hW
  have hO := clsOK_of hW.1 hW.2.1 hW.2.2.1 hW.2.2.2
  have h1 := (part_alw (canS_lead hW) (ascL_of (canS_chk hW)) hk hk').1 e
  have hr := canR_of hW hk
  have hr' := canR_of hW hk'
  refine (canR_inj hW hr hr').1 ((part_alw (LeadOK.ofCls hO) (ascL_of h0) hr.1 hr'.1).2 fun w => ?_)
  rw [canS_alw hW hr, canS_alw hW hr', h1 w]
/-- All of them are met. -/
theorem canS_met (hW : SmA n ss) : (ordI (canS ss)).1.length = (canS ss).length := by
  have hO := clsOK_of hW.1 hW.2.1 hW.2.2.1 hW.2.2.2
  obtain ⟨R', h1, h2⟩ := srch_lock (kf' := id) (canSim hW) (fun s t s' t' h h' => canR_inj hW h h') _ 0 ([0], []) ([0], []) ⟨canR_zero hW, trivial⟩ (ordC_eq hO).1
  have h3 := srch_mono h1 ((canS ss).length + 1)
  have h4 := srch_mono (ordI_eq (canS_cls hW)).1 (ss.length + 1)
  rw [Nat.add_comm] at h4
  rw [h3] at h4
  injection h4 with h4
  rw [← h4, ← h2.len, canS_len]
end
end Go.Proofs.YtfihpofdoffclaaGreatDoor

/- Two adversaries side by side in one: they have the same canonical form exactly if no word tells their first states apart. Plain lists. -/
namespace Go.Proofs.YtfihpofdoffclaaGreatDoor

def shMs (a : Nat) (ms : List (List Int)) : List (List Int) := ms.map fun m => rdOf m ++ [m.getD 7 0 + (a : Int)]
def unS (xs ys : List (List (List Int))) : List (List (List Int)) := xs ++ ys.map (shMs xs.length)
theorem unS_len (xs ys : List (List (List Int))) : (unS xs ys).length = xs.length + ys.length := by rw [unS, List.length_append, List.length_map]
theorem unS_l {xs ys : List (List (List Int))} {i : Nat} (h : i < xs.length) : (unS xs ys).getD i [] = xs.getD i [] := getD_app_l h
theorem unS_r {xs ys : List (List (List Int))} {i : Nat} (h : i < ys.length) : (unS xs ys).getD (xs.length + i) [] = shMs xs.length (ys.getD i []) := by
  rw [unS, List.getD_eq_getElem?_getD, List.getElem?_append_right (by omega), Nat.add_sub_cancel_left, List.getElem?_map, List.getElem?_eq_getElem h, getD_eq h]; rfl
theorem unS_moves (xs ys : List (List (List Int))) : movesN (unS xs ys) = movesN xs + movesN ys := by
  rw [unS, movesN_app]
  congr 1
  unfold movesN
  congr 1
  rw [List.map_map]
  exact List.map_congr_left fun l _ => by show (shMs _ l).length = _; rw [shMs, List.length_map]
theorem All2.refl_of {α : Type} {R : α → α → Prop} : ∀ {l : List α}, (∀ a ∈ l, R a a) → All2 R l l
  | [], _ => trivial
  | a :: l, h => ⟨h a (by simp), All2.refl_of fun b hb => h b (by simp [hb])⟩
theorem sh_snoc {m : List Int} (hm8 : m.length = 8) (v : Int) : rdOf (rdOf m ++ [v]) = rdOf m ∧ (rdOf m ++ [v]).getD 7 0 = v ∧ (rdOf m ++ [v]).length = 8 := by
  have hl7 : (rdOf m).length = 7 := by rw [rdOf, List.length_take, hm8]; rfl
  refine ⟨?_, by rw [List.getD_eq_getElem?_getD, List.getElem?_append_right (by omega), hl7]; rfl, by rw [List.length_append, hl7]; rfl⟩
  show (rdOf m ++ [_]).take 7 = _
  rw [← hl7, List.take_left]
section
variable {xs ys : List (List (List Int))}
def LefR (xs : List (List (List Int))) (i j : Nat) : Prop := i < xs.length ∧ j = i
def RigR (xs ys : List (List (List Int))) (i j : Nat) : Prop := i < ys.length ∧ j = xs.length + i
theorem unS_simL (hM : LeadOK xs) : SimR (LefR xs) xs (unS xs ys) := fun i j h => by
  obtain ⟨hi, rfl⟩ := h
  rw [unS_l hi]
  have hmm : xs.getD j [] ∈ xs := by rw [getD_eq hi]; exact List.getElem_mem hi
  exact All2.refl_of fun m hm => ⟨rfl, by have := hM _ hmm m hm; unfold mvTo; omega, rfl⟩
theorem unS_simR (hM : LeadOK ys) (h8 : ∀ s ∈ ys, ∀ m ∈ s, m.length = 8) : SimR (RigR xs ys) ys (unS xs ys) := fun i j h => by
  obtain ⟨hi, rfl⟩ := h
  rw [unS_r hi]
  have hmm : ys.getD i [] ∈ ys := by rw [getD_eq hi]; exact List.getElem_mem hi
  have key : ∀ ms : List (List Int), (∀ m ∈ ms, m.length = 8 ∧ 0 ≤ m.getD 7 0 ∧ m.getD 7 0 < (ys.length : Int)) → All2 (MvR (RigR xs ys)) ms (shMs xs.length ms) := by
    intro ms
    induction ms with
    | nil => intro _; trivial
    | cons m r ih =>
      intro h
      obtain ⟨a, b, c⟩ := h m (by simp)
      obtain ⟨q1, q2, _⟩ := sh_snoc a (m.getD 7 0 + (xs.length : Int))
      refine ⟨⟨q1.symm, ?_, ?_⟩, ih fun x hx => h x (by simp [hx])⟩
      · unfold mvTo; omega
      · unfold mvTo; rw [q2]; omega
  exact key _ fun m hm => ⟨h8 _ hmm m hm, hM _ hmm m hm⟩
theorem unS_mem (hM : LeadOK xs) (h8 : ∀ s ∈ xs, ∀ m ∈ s, m.length = 8) (hM' : LeadOK ys) (h8' : ∀ s ∈ ys, ∀ m ∈ s, m.length = 8) {s : List (List Int)} (hs : s ∈ unS xs ys) {m : List Int} (hm : m ∈ s) :
    m.length = 8 ∧ 0 ≤ m.getD 7 0 ∧ m.getD 7 0 < ((unS xs ys).length : Int) := by
  rw [unS_len]
  rw [unS] at hs
  rcases List.mem_append.1 hs with hs | hs
  · have := hM s hs m hm
    exact ⟨h8 s hs m hm, by omega, by omega⟩
  · obtain ⟨l, hl, rfl⟩ := List.mem_map.1 hs
    obtain ⟨m0, hm0, rfl⟩ := List.mem_map.1 hm
    have := hM' l hl m0 hm0
    obtain ⟨_, q2, q3⟩ := sh_snoc (h8' l hl m0 hm0) (m0.getD 7 0 + (xs.length : Int))
    rw [q2]
    exact ⟨q3, by omega, by omega⟩
/-- Two small, well-formed adversaries of as many processes. -/
def TwoA (n : Int) (xs ys : List (List (List Int))) : Prop := ((∀ s ∈ xs, ∀ m ∈ s, m.length = 8) ∧ chkA n xs = 0) ∧ ((∀ s ∈ ys, ∀ m ∈ s, m.length = 8) ∧ chkA n ys = 0) ∧ xs.length + ys.length ≤ 90 ∧ movesN xs + movesN ys ≤ 90
variable {n : Int} (hW : TwoA n xs ys)
theorem TwoA.l (hW : TwoA n xs ys) : SmA n xs := ⟨hW.1.1, hW.1.2, by have := hW.2.2.1; omega, by have := hW.2.2.2; omega⟩
theorem TwoA.r (hW : TwoA n xs ys) : SmA n ys := ⟨hW.2.1.1, hW.2.1.2, by have := hW.2.2.1; omega, by have := hW.2.2.2; omega⟩
theorem SmA.cls {ss : List (List (List Int))} (h : SmA n ss) : ClsOK ss := clsOK_of h.1 h.2.1 h.2.2.1 h.2.2.2
theorem SmA.lead {ss : List (List (List Int))} (h : SmA n ss) : LeadOK ss := LeadOK.ofCls h.cls
theorem SmA.asc {ss : List (List (List Int))} (h : SmA n ss) : ∀ s ∈ ss, AscL (s.map rdOf) := ascL_of h.2.1
theorem SmA.pos {ss : List (List (List Int))} (h : SmA n ss) : 0 < ss.length := h.cls.2.2.1
theorem unS_lead (hW : TwoA n xs ys) : LeadOK (unS xs ys) := fun _ hs _ hm => (unS_mem hW.l.lead hW.l.1 hW.r.lead hW.r.1 hs hm).2
theorem unS_chk (hW : TwoA n xs ys) : chkA n (unS xs ys) = 0 := by
  obtain ⟨a1, _, _, _⟩ := chkA_facts hW.l.2.1
  have hp := hW.l.pos
  have h3 := hW.2.2.1
  have h4 := hW.2.2.2
  refine chkA_of a1 (by rw [unS_len]; omega) (by rw [unS_moves]; omega) (unS_lead hW) fun i hi => ?_
  rw [unS_len] at hi
  by_cases h : i < xs.length
  · exact StW.lock (unS_simL hW.l.lead) (s := i) ⟨h, rfl⟩ (stW_of hW.l.2.1 i h)
  · exact StW.lock (unS_simR hW.r.lead hW.r.1) (s := i - xs.length) ⟨by omega, by omega⟩ (stW_of hW.r.2.1 _ (by omega))
theorem unS_small (hW : TwoA n xs ys) : SmA n (unS xs ys) := ⟨fun _ hs _ hm => (unS_mem hW.l.lead hW.l.1 hW.r.lead hW.r.1 hs hm).1, unS_chk hW, by rw [unS_len]; exact hW.2.2.1, by rw [unS_moves]; exact hW.2.2.2⟩
theorem unS_alwL (hW : TwoA n xs ys) (w : List (List Int)) : alw xs w 0 ↔ alw (unS xs ys) w 0 := alw_lock (unS_simL hW.l.lead) hW.l.lead (unS_lead hW) ⟨hW.l.pos, rfl⟩
theorem unS_alwR (hW : TwoA n xs ys) (w : List (List Int)) : alw ys w 0 ↔ alw (unS xs ys) w xs.length := alw_lock (unS_simR hW.r.lead hW.r.1) hW.r.lead (unS_lead hW) ⟨hW.r.pos, rfl⟩
theorem canS_words {ss : List (List (List Int))} (h : SmA n ss) (w : List (List Int)) : alw ss w 0 ↔ alw (canS ss) w 0 := canS_alw h (canR_zero h) w
theorem unS_at (hW : TwoA n xs ys) : 0 < (unS xs ys).length ∧ xs.length < (unS xs ys).length := by
  have h1 := hW.l.pos
  have h2 := hW.r.pos
  rw [unS_len]; omega
/-- The canonical forms are equal exactly if the first states are of one class, side by side. -/
theorem can_iff (hW : TwoA n xs ys) : canS xs = canS ys ↔ keyL (part (unS xs ys)) 0 = keyL (part (unS xs ys)) xs.length := by
  have hS := unS_small hW
  obtain ⟨p0, p1⟩ := unS_at hW
  constructor
  · intro e
    rw [part_alw hS.lead hS.asc p0 p1]
    intro w
    rw [← unS_alwL hW, ← unS_alwR hW, canS_words hW.l, canS_words hW.r, e]
  · intro e
    have hb := unS_len xs ys
    have f1 := (canS_F hW.l.cls).lock (unS_simL (ys := ys) hW.l.lead) (keyR_of (unS_simL hW.l.lead) hW.l.lead hS.lead hW.l.asc hS.asc fun s t h => ⟨h.1, by have := h.1; have := h.2; omega⟩) (s0 := 0) (t0 := 0) ⟨hW.l.pos, rfl⟩
    have f2 := (canS_F hW.r.cls).lock (unS_simR (xs := xs) hW.r.lead hW.r.1) (keyR_of (unS_simR hW.r.lead hW.r.1) hW.r.lead hS.lead hW.r.asc hS.asc fun s t h => ⟨h.1, by have := h.1; have := h.2; omega⟩) (s0 := 0) (t0 := xs.length) ⟨hW.r.pos, rfl⟩
    have f3 := f1.lock (ρ := SameK (unS xs ys)) (part_sim hS.lead.toOK p0) (fun s t s' t' h h' => by rw [h.2.2, h'.2.2]) (t0 := xs.length) ⟨p0, p1, e⟩
    exact CanF.uniq f3 f2
theorem decides (hW : TwoA n xs ys) : canS xs = canS ys ↔ dist (unS xs ys) 0 xs.length = none := by
  obtain ⟨p0, p1⟩ := unS_at hW
  have hS := unS_small hW
  rw [can_iff hW, dist_none hS.lead hS.asc p0 p1]
/-- The word found: permitted by exactly one of them, its beginnings by both. -/
theorem decides_word (hW : TwoA n xs ys) {w : List (List Int)} (h : dist (unS xs ys) 0 xs.length = some w) :
    0 < w.length ∧ w.length ≤ xs.length + ys.length ∧ ¬ (alw xs w 0 ↔ alw ys w 0) ∧ alw xs (w.take (w.length - 1)) 0 ∧ alw ys (w.take (w.length - 1)) 0 := by
  obtain ⟨p0, p1⟩ := unS_at hW
  have hS := unS_small hW
  have h1 := dist_ok hS.lead p0 p1
  have h2 := dist_le hS.lead hS.asc p0 p1
  rw [h] at h1 h2
  obtain ⟨wd, r, rfl, a1, a2, a3, _⟩ := h1
  rw [unS_len] at h2
  have hl : (wd ++ [r]).length - 1 = wd.length := by rw [List.length_append]; simp
  rw [hl, List.take_left, unS_alwL hW, unS_alwR hW, unS_alwL hW, unS_alwR hW]
  exact ⟨by simp, by simpa using h2, a3, a1, a2⟩
end
end Go.Proofs.YtfihpofdoffclaaGreatDoor

/- canonical.Verify. -/
namespace Go.Proofs.YtfihpofdoffclaaGreatDoor
open Go.RowKit

/-- The first states: word number i - 1 leads to state i. -/
def verGo (ss : List (List (List Int))) (ps : List (List (List Int))) : Nat → Nat → Bool
  | _, 0 => true
  | i, c + 1 => if afterI ss (ps.getD (i - 1) []) 0 = (i : Int) then verGo ss ps (i + 1) c else false
/-- The row of state i: each further word tells i from k. -/
def verRow (ss : List (List (List Int))) (ps : List (List (List Int))) (i : Nat) : Nat → Nat → Nat → Bool
  | _, 0, _ => true
  | k, c + 1, at' => if decide (afterI ss (ps.getD at' []) i < 0) == decide (afterI ss (ps.getD at' []) k < 0) then false else verRow ss ps i (k + 1) c (at' + 1)
def verAll (ss : List (List (List Int))) (ps : List (List (List Int))) : Nat → Nat → Nat → Bool
  | _, 0, _ => true
  | i, c + 1, at' => verRow ss ps i (i + 1) c at' && verAll ss ps (i + 1) c (at' + c)
def tri : Nat → Nat
  | 0 => 0
  | m + 1 => m + tri m
theorem tri_eq : ∀ n, 2 * tri n = n * (n - 1)
  | 0 => rfl
  | n + 1 => by
    have := tri_eq n
    rw [tri, Nat.mul_add, this, Nat.add_sub_cancel]
    cases n with
    | zero => rfl
    | succ m => simp only [Nat.add_sub_cancel, Nat.add_mul, Nat.mul_add, Nat.one_mul, Nat.mul_one]; omega
theorem tri_le {n : Nat} (h : n ≤ 90) : tri n ≤ 4005 := by
  have := tri_eq n
  have h2 : n * (n - 1) ≤ 90 * 89 := Nat.mul_le_mul h (by omega)
  omega
/-- The error of a proof. -/
def verI (n : Int) (ss : List (List (List Int))) (ps : List (List (List Int))) : Int :=
  if chkA n ss ≠ 0 then chkA n ss else if ps.length ≠ ss.length - 1 + tri ss.length then 15
  else if verGo ss ps 1 (ss.length - 1) && verAll ss ps 0 ss.length (ss.length - 1) then 0 else 18
theorem verProd {m : Nat} (h : 0 < m) : (m : Int) * ((m : Int) - 1) = ((2 * tri m : Nat) : Int) := by
  rw [tri_eq, Int.natCast_mul]
  congr 1
  omega

set_option maxRecDepth 100000 in
set_option maxHeartbeats 3200000 in
theorem verifyA {w : World} {v pv : Value} {n : Int} {ss ps : List (List (List Int))} (hA : AdvV w v n ss) (hl : ss.length ≤ 90) (hm : movesN ss ≤ 90) (hP : KSS 7 w pv ps) (h0 : chkA n ss = 0) (hM : LeadOK ss) (hlen : ps.length = ss.length - 1 + tri ss.length) :
    Calls Tryz.prog 29 #[v, pv] w fun e w' => e = .returned (.int .i64 (verI n ss ps)) ∧ Below w.heap.size w w' := by
  obtain ⟨sa, sc, hv⟩ := advShape' hA
  subst hv
  obtain ⟨W1, hW1⟩ : ∃ W1, W1 = w.alloc (.cells #[.int .i64 n, .slice sa ss.length sc] 24) := ⟨_, rfl⟩
  obtain ⟨hb1, p0, p1, _⟩ := boxAdv hW1
  have HC := checkA (hA.keep hb1) (by omega)
  have hpos := (chkA_facts h0).2.1.1
  rw [h0] at HC
  have hz : Hid (verI n ss ps = if verGo ss ps 1 (ss.length - 1) && verAll ss ps 0 ss.length (ss.length - 1) then 0 else 18) := by
    show _ = _
    rw [verI, if_neg (fun k => k h0), if_neg (fun k => k hlen)]
  obtain ⟨z, hzz⟩ : ∃ z, verI n ss ps = z := ⟨_, rfl⟩
  rw [hzz] at hz ⊢
  obtain ⟨pa, pc, pb, po, rfl, hpa, hpc, _⟩ := hP
  have HT := Lib.hid (fun W (hb : Below w.heap.size w W) (j : Nat) (hj : j < ss.length) (k : Nat) (hk : k < ps.length) u (hu : KS 7 w u (ps.getD k [])) => afterA (hA.keep hb) hM hj (hu.keep hb))
  obtain ⟨N, hN⟩ : ∃ N, ss.length = N := ⟨_, rfl⟩
  have htl := tri_le (n := N) (by omega)
  have hmul := verProd (m := N) (by omega)
  obtain ⟨T, hT⟩ : ∃ T, tri N = T := ⟨_, rfl⟩
  rw [hN] at hlen hz p1 hpos hW1 HT HC ⊢
  rw [hT] at hlen htl hmul
  have hq : (((2 * T : Nat) : Int)).tdiv 2 = (T : Int) := by rw [Int.natCast_mul]; exact Int.mul_tdiv_cancel_left _ (by decide)
  have hNi : ((N - 1 : Nat) : Int) = (N : Int) - 1 := by omega
  have hpl : (ps.length : Int) = (N : Int) - 1 + (T : Int) := by rw [hlen]; omega
  replace hpc := Lib.hid hpc
  replace HC := Lib.hid HC
  replace hN := Lib.hid hN
  replace hT := Lib.hid hT
  clear hA h0 hzz
  go_enter Tryz.func29, Tryz.ntmps29
  go_wp2_with fail
  rw [← hW1]
  refine HC.out.mono ?_
  rintro e W2 ⟨rfl, hb2⟩
  have q0 := cell_kept hb2 p0
  have q1 := cell_kept hb2 p1
  have hb02 := bt hb1 hb2 hb1.size
  replace hW1 := Lib.hid hW1
  go_wp2_with fail
  have h10 : Hid (verGo ss ps 1 (N - 1) = verGo ss ps 1 (N - 1)) := rfl
  obtain ⟨G1, hG1⟩ : ∃ G1, verGo ss ps 1 (N - 1) = G1 := ⟨_, rfl⟩
  have hG1' : Hid (verGo ss ps 1 (N - 1) = G1) := hG1
  rw [hG1] at hz
  have hmx : Tryz.prog.follows .mixedOrders = true := by kernel_rfl
  clear hG1 h10
  go_loopw [7, 8] (fun av iv wr => ∃ i : Nat, 1 ≤ i ∧ i ≤ N ∧ av = .int .i64 ((i - 1 : Nat) : Int) ∧ iv = .int .i64 i ∧ Hid (verGo ss ps i (N - i) = G1) ∧ Below W2.heap.size W2 wr) (fun _ iv _ => N - (intOf iv).toNat)
  case atStart => exact ⟨1, Nat.le_refl _, hpos, rfl, rfl, hG1', Below.refl _ _⟩
  case round =>
    obtain ⟨i, hi1, hi, rfl, rfl, hg, hbr⟩ := hrel
    by_cases hlt : i < N
    · have hbw := bt hb02 hbr hb02.size
      have hat : i - 1 < ps.length := by omega
      obtain rfl := hpa (by omega)
      obtain ⟨u, hcu, hu⟩ := hpc.out (i - 1) hat
      have hcu := cell_kept hbw hcu
      have x0 := cell_kept hbr q0
      have x1 := cell_kept hbr q1
      have HT1 := fun wq (hC : Below wr.heap.size wr wq) => HT.out wq (bt hbw hC hbw.size) 0 (by omega) (i - 1) hat u hu
      obtain ⟨ua, uc, hus⟩ := hu.shape
      subst hus
      obtain ⟨m, hm1⟩ : ∃ m, i - 1 = m := ⟨_, rfl⟩
      have him : i = m + 1 := by omega
      subst him
      have hf := Lib.hid (fun wq (hC : Below wr.heap.size wr wq) => And.intro (cell_kept hC hcu) (And.intro (cell_kept hC x0) (cell_kept hC x1)))
      simp only [Nat.add_sub_cancel] at hf HT1 hat
      obtain ⟨t, ht⟩ : ∃ t, afterI ss (ps.getD m []) 0 = t := ⟨_, rfl⟩
      simp only [ht] at HT1
      replace HT1 := Lib.hid HT1
      have hg2 := hg.out
      rw [show N - (m + 1) = (N - (m + 1 + 1)) + 1 by omega, verGo, Nat.add_sub_cancel, ht] at hg2
      have hix : (m : Int) < (N : Int) - 1 + (T : Int) := by omega
      clear hcu hu ht hg hm1
      simp only [Nat.add_sub_cancel]
      go_wp2_with fail
      refine wp_region_ball hmx (by kernel_rfl) ?_
      repeat (refine wpQuiet_step (fun K hK => ?_)
              go_simp
              first
                | (refine hK _ ?_; clear hK K)
                | (apply Exists.intro
                   refine ⟨fun wq hC => ?_, hK _ ?_⟩
                   · (first | with_reducible rfl | (obtain ⟨f0, f1, f2⟩ := hf.out wq hC; go_simp; first | done | with_reducible rfl | with_reducible exact ⟨rfl, rfl⟩))
                   clear hK K))
      (refine wpQuiet_step (fun K hK => ?_)
       go_simp
       first
         | (refine hK _ ?_; clear hK K)
         | (apply Exists.intro
            refine ⟨fun wq hC => ?_, hK _ ?_⟩
            · (refine (HT1.out wq hC).mono ?_; rintro e w' ⟨rfl, hb⟩; exact ⟨rfl, bt hC hb hC.size⟩)
            clear hK K))
      repeat (refine wpQuiet_step (fun K hK => ?_)
              go_simp
              first
                | (refine hK _ ?_; clear hK K)
                | (apply Exists.intro
                   refine ⟨fun wq hC => ?_, hK _ ?_⟩
                   · (first | with_reducible rfl | (obtain ⟨f0, f1, f2⟩ := hf.out wq hC; go_simp; first | done | with_reducible rfl | with_reducible exact ⟨rfl, rfl⟩))
                   clear hK K))
      refine wpQuiet_nil ?_
      intro w4 hb4
      have hb4w := btt hbr hb4
      by_cases hti : t = (m : Int) + 1
      · rw [if_pos (by omega)] at hg2
        subst hti
        have hg3 : Hid (verGo ss ps (m + 1 + 1) (N - (m + 1 + 1)) = G1) := hg2
        clear hg2
        go_wp2
        go_roundw
        case rel => exact ⟨m + 1 + 1, by omega, by omega, by go_num, by go_num, hg3, hb4w⟩
        case measure => simp [intOf]; omega
      · have hne : (t == (m : Int) + 1) = false := by simp [hti]
        rw [if_neg (by omega)] at hg2
        have hz2 : Hid (z = 18) := by show _ = _; rw [hz.out, ← hg2]; rfl
        clear hg2 hti
        go_wp2
        go_ret
        exact ⟨by rw [hz2.out]; rfl, bt hb02 hb4w hb02.size⟩
    · obtain rfl : N = i := by omega
      have hG1t : G1 = true := by rw [← hg.out, Nat.sub_self]; rfl
      rw [hG1t, Bool.true_and] at hz
      obtain ⟨G2, hG2⟩ : ∃ G2, verAll ss ps 0 N (N - 1) = G2 := ⟨_, rfl⟩
      rw [hG2] at hz
      have hg0 : Hid (verAll ss ps 0 (N - 0) (N - 1) = G2) := hG2
      have hc0 : Hid (N - 1 + tri (N - 0) = N - 1 + T) := by show _ = _; rw [Nat.sub_zero, hT.out]
      clear hg hG1' hG2 hG1t hi1 hi hlt
      go_wp2_with fail
      go_loopw [7, 46] (fun av iv wr => ∃ i at' : Nat, av = .int .i64 at' ∧ iv = .int .i64 i ∧ i ≤ N ∧ Hid (at' + tri (N - i) = N - 1 + T) ∧ Hid (verAll ss ps i (N - i) at' = G2) ∧ Below W2.heap.size W2 wr) (fun _ iv _ => N - (intOf iv).toNat)
      case atStart => exact ⟨0, N - 1, by first | rfl | (congr 1; omega), rfl, by omega, hc0, hg0, hbr⟩
      case round =>
        clear hg0 hc0 hbr
        obtain ⟨i, at', rfl, rfl, hi, hc, hg, hbr⟩ := hrel
        by_cases hlt : i < N
        · have hg2 := hg.out
          have hc2 := hc.out
          rw [show N - i = (N - (i + 1)) + 1 by omega, verAll] at hg2
          rw [show N - i = (N - (i + 1)) + 1 by omega, tri] at hc2
          obtain ⟨A1, hA1⟩ : ∃ A1, verRow ss ps i (i + 1) (N - (i + 1)) at' = A1 := ⟨_, rfl⟩
          obtain ⟨A2, hA2⟩ : ∃ A2, verAll ss ps (i + 1) (N - (i + 1)) (at' + (N - (i + 1))) = A2 := ⟨_, rfl⟩
          rw [hA1, hA2] at hg2
          obtain ⟨R, hR⟩ : ∃ R, tri (N - (i + 1)) = R := ⟨_, rfl⟩
          rw [hR] at hc2
          replace hg2 := Lib.hid hg2
          replace hA1 := Lib.hid hA1
          replace hA2 := Lib.hid hA2
          replace hR := Lib.hid hR
          clear hg hc
          obtain ⟨wo, hwo⟩ : ∃ wo, wo = wr := ⟨_, rfl⟩
          subst hwo
          go_wp2_with fail
          go_loopw [7, 10] (fun av kv wr => ∃ k b : Nat, av = .int .i64 b ∧ kv = .int .i64 k ∧ i + 1 ≤ k ∧ k ≤ N ∧ b + (i + 1) = at' + k ∧ Hid (verRow ss ps i k (N - k) b = A1) ∧ Below W2.heap.size W2 wr) (fun _ kv _ => N - (intOf kv).toNat)
          case atStart => exact ⟨i + 1, at', rfl, by first | rfl | go_num, Nat.le_refl _, by omega, rfl, hA1, hbr⟩
          case round =>
            clear hA1 hbr
            obtain ⟨k, b, rfl, rfl, hik, hk, hbk, hgr, hbr⟩ := hrel
            by_cases hltk : k < N
            · have hbw := bt hb02 hbr hb02.size
              have hbl : b < ps.length := by omega
              obtain rfl := hpa (by omega)
              obtain ⟨u, hcu, hu⟩ := hpc.out b hbl
              have hcu := cell_kept hbw hcu
              have x0 := cell_kept hbr q0
              have x1 := cell_kept hbr q1
              have HT1 := fun wq (hC : Below wr.heap.size wr wq) => HT.out wq (bt hbw hC hbw.size) i hlt b hbl u hu
              have HT2 := fun wq (hC : Below wr.heap.size wr wq) => HT.out wq (bt hbw hC hbw.size) k hltk b hbl u hu
              obtain ⟨ua, uc, hus⟩ := hu.shape
              subst hus
              have hf := Lib.hid (fun wq (hC : Below wr.heap.size wr wq) => And.intro (cell_kept hC hcu) (And.intro (cell_kept hC x0) (cell_kept hC x1)))
              have hg3 := hgr.out
              rw [show N - k = (N - (k + 1)) + 1 by omega, verRow] at hg3
              obtain ⟨s, hs⟩ : ∃ s, afterI ss (ps.getD b []) i = s := ⟨_, rfl⟩
              obtain ⟨t, ht⟩ : ∃ t, afterI ss (ps.getD b []) k = t := ⟨_, rfl⟩
              rw [hs, ht] at hg3
              simp only [hs] at HT1
              simp only [ht] at HT2
              replace HT1 := Lib.hid HT1
              replace HT2 := Lib.hid HT2
              have hix : (b : Int) < (N : Int) - 1 + (T : Int) := by omega
              obtain ⟨S, hS⟩ : ∃ S, decide (s < 0) = S := ⟨_, rfl⟩
              obtain ⟨U, hU⟩ : ∃ U, decide (t < 0) = U := ⟨_, rfl⟩
              rw [hS, hU] at hg3
              replace hg3 := Lib.hid hg3
              clear hcu hu hs ht hgr
              go_wp2_with fail
              refine wp_region_ball hmx (by kernel_rfl) ?_
              repeat (refine wpQuiet_step (fun K hK => ?_)
                      go_simp
                      first
                        | (refine hK _ ?_; clear hK K)
                        | (apply Exists.intro
                           refine ⟨fun wq hC => ?_, hK _ ?_⟩
                           · (first | with_reducible rfl | (obtain ⟨f0, f1, f2⟩ := hf.out wq hC; go_simp; first | done | with_reducible rfl | with_reducible exact ⟨rfl, rfl⟩))
                           clear hK K))
              (refine wpQuiet_step (fun K hK => ?_)
               go_simp
               first
                 | (refine hK _ ?_; clear hK K)
                 | (apply Exists.intro
                    refine ⟨fun wq hC => ?_, hK _ ?_⟩
                    · (refine (HT1.out wq hC).mono ?_; rintro e w' ⟨rfl, hb⟩; exact ⟨rfl, bt hC hb hC.size⟩)
                    clear hK K))
              repeat (refine wpQuiet_step (fun K hK => ?_)
                      go_simp
                      first
                        | (refine hK _ ?_; clear hK K)
                        | (apply Exists.intro
                           refine ⟨fun wq hC => ?_, hK _ ?_⟩
                           · (first | with_reducible rfl | (obtain ⟨f0, f1, f2⟩ := hf.out wq hC; go_simp; first | done | with_reducible rfl | with_reducible exact ⟨rfl, rfl⟩))
                           clear hK K))
              (refine wpQuiet_step (fun K hK => ?_)
               go_simp
               first
                 | (refine hK _ ?_; clear hK K)
                 | (apply Exists.intro
                    refine ⟨fun wq hC => ?_, hK _ ?_⟩
                    · (refine (HT2.out wq hC).mono ?_; rintro e w' ⟨rfl, hb⟩; exact ⟨rfl, bt hC hb hC.size⟩)
                    clear hK K))
              repeat (refine wpQuiet_step (fun K hK => ?_)
                      go_simp
                      first
                        | (refine hK _ ?_; clear hK K)
                        | (apply Exists.intro
                           refine ⟨fun wq hC => ?_, hK _ ?_⟩
                           · (first | with_reducible rfl | (obtain ⟨f0, f1, f2⟩ := hf.out wq hC; go_simp; first | done | with_reducible rfl | with_reducible exact ⟨rfl, rfl⟩))
                           clear hK K))
              refine wpQuiet_nil ?_
              intro w4 hb4
              have hb4w := btt hbr hb4
              by_cases hSU : S = U
              · subst hSU
                have hA : A1 = false := by
                  rw [← hg3.out]; cases S <;> rfl
                have hz2 : Hid (z = 18) := by
                  show _ = _; rw [hz.out, ← hg2.out, hA]; rfl
                clear hA hg3
                cases S <;> (
                  go_wp2
                  go_ret
                  exact ⟨by rw [hz2.out]; rfl, bt hb02 hb4w hb02.size⟩)
              · have hg4 : Hid (verRow ss ps i (k + 1) (N - (k + 1)) (b + 1) = A1) := by
                  have h := hg3.out
                  rw [show (S == U) = false by cases S <;> cases U <;> simp_all] at h
                  exact h
                have hSU2 : (S = true ∧ U = false) ∨ (S = false ∧ U = true) := by cases S <;> cases U <;> simp_all
                clear hSU hg3
                rcases hSU2 with ⟨rfl, rfl⟩ | ⟨rfl, rfl⟩ <;> (
                  go_wp2
                  go_roundw
                  case rel => exact ⟨k + 1, b + 1, by go_num, by go_num, by omega, by omega, by omega, hg4, hb4w⟩
                  case measure => simp [intOf]; omega)
            · obtain rfl : N = k := by omega
              have hA : A1 = true := by rw [← hgr.out, Nat.sub_self]; rfl
              have hg5 : Hid (verAll ss ps (i + 1) (N - (i + 1)) b = G2) := by
                show _ = _
                rw [← hg2.out, hA, Bool.true_and, ← hA2.out]
                congr 1
                omega
              have hc5 : Hid (b + tri (N - (i + 1)) = N - 1 + T) := by show _ = _; rw [hR.out]; omega
              clear hA hg2 hA2 hgr
              go_wp2
              go_roundw
              case rel => exact ⟨i + 1, b, rfl, by go_num, hlt, hc5, hg5, hbr⟩
              case measure => simp [intOf]; omega
        · have hz2 : Hid (z = 0) := by
            show _ = _
            rw [hz.out, ← hg.out, show N - i = 0 by omega]; rfl
          clear hg hc
          go_wp2
          go_ret
          exact ⟨by rw [hz2.out]; rfl, bt hb02 hbr hb02.size⟩
end Go.Proofs.YtfihpofdoffclaaGreatDoor

/- Minimal adversaries and their proofs. Plain lists. -/
namespace Go.Proofs.YtfihpofdoffclaaGreatDoor

/-- The words that lead to the states. -/
def wds (n : Nat) (fs : List (Nat × List Int)) : List (List (List Int)) := fs.foldl (fun W f => W.set (mvTo f.2) (W.getD f.1 [] ++ [rdOf f.2])) (List.replicate n [])
theorem wds_snoc (n : Nat) (fs : List (Nat × List Int)) (f : Nat × List Int) : wds n (fs ++ [f]) = (wds n fs).set (mvTo f.2) ((wds n fs).getD f.1 [] ++ [rdOf f.2]) := by simp [wds]
theorem wds_fold_len (fs : List (Nat × List Int)) : ∀ W : List (List (List Int)), (fs.foldl (fun W f => W.set (mvTo f.2) (W.getD f.1 [] ++ [rdOf f.2])) W).length = W.length := by
  induction fs with
  | nil => intro W; rfl
  | cons f fs ih => intro W; rw [List.foldl_cons, ih, List.length_set]
theorem wds_len (n : Nat) (fs : List (Nat × List Int)) : (wds n fs).length = n := by rw [wds, wds_fold_len, List.length_replicate]
theorem wds_fold_le (fs : List (Nat × List Int)) : ∀ (W : List (List (List Int))) (b : Nat), (∀ i, (W.getD i []).length ≤ b) → ∀ i, ((fs.foldl (fun W f => W.set (mvTo f.2) (W.getD f.1 [] ++ [rdOf f.2])) W).getD i []).length ≤ b + fs.length := by
  induction fs with
  | nil => intro W b h i; simpa using h i
  | cons f fs ih =>
    intro W b h i
    rw [List.foldl_cons]
    refine Nat.le_trans (ih _ (b + 1) (fun j => ?_) i) (by simp only [List.length_cons]; omega)
    rw [List.getD_eq_getElem?_getD, List.getElem?_set]
    split
    · split
      · simp only [Option.getD_some, List.length_append, List.length_cons, List.length_nil]; have := h f.1; omega
      · simp
    · have := h j; rw [List.getD_eq_getElem?_getD] at this; omega
theorem wds_le (n : Nat) (fs : List (Nat × List Int)) (i : Nat) : ((wds n fs).getD i []).length ≤ fs.length := by
  have := wds_fold_le fs (List.replicate n []) 0 (fun i => by
    rw [List.getD_eq_getElem?_getD, List.getElem?_replicate]; split <;> simp) i
  rw [Nat.zero_add] at this; exact this

def minB (ss : List (List (List Int))) : Bool := decide ((ordI ss).1.length = ss.length) && decide (mxN (part ss) + 1 = ss.length)
def prRow (ss : List (List (List Int))) (i k : Nat) : Nat → List (List (List Int))
  | 0 => []
  | m + 1 => (dist ss i k).getD [] :: prRow ss i (k + 1) m
def prAll (ss : List (List (List Int))) (i : Nat) : Nat → List (List (List Int))
  | 0 => []
  | m + 1 => prRow ss i (i + 1) m ++ prAll ss (i + 1) m
def prvL (ss : List (List (List Int))) : List (List (List Int)) := (wds ss.length (ordI ss).2).drop 1 ++ prAll ss 0 ss.length
theorem prRow_len (ss : List (List (List Int))) (i : Nat) : ∀ m k, (prRow ss i k m).length = m
  | 0, _ => rfl
  | m + 1, k => by rw [prRow, List.length_cons, prRow_len ss i m]
theorem prAll_len (ss : List (List (List Int))) : ∀ m i, (prAll ss i m).length = tri m
  | 0, _ => rfl
  | m + 1, i => by rw [prAll, List.length_append, prRow_len, prAll_len ss m, tri]

theorem fold_max_le : ∀ {l : List Nat} {a b : Nat}, a ≤ b → (∀ x ∈ l, x ≤ b) → l.foldl max a ≤ b
  | [], _, _, h, _ => h
  | x :: l, a, b, h, hl => by
    rw [List.foldl_cons]
    exact fold_max_le (by have := hl x (by simp); omega) fun y hy => hl y (by simp [hy])
theorem fold_max_ge : ∀ {l : List Nat} {a : Nat}, a ≤ l.foldl max a ∧ ∀ x ∈ l, x ≤ l.foldl max a
  | [], a => ⟨Nat.le_refl _, by simp⟩
  | x :: l, a => by
    rw [List.foldl_cons]
    obtain ⟨h1, h2⟩ := fold_max_ge (l := l) (a := max a x)
    refine ⟨by omega, fun y hy => ?_⟩
    rcases List.mem_cons.1 hy with rfl | hy
    · omega
    · exact h2 y hy
/-- The greatest label, and the number of keys. -/
theorem mxN_lbl {κ : Type} [DecidableEq κ] {ks : List κ} (h : 0 < ks.length) : mxN (lbl ks) + 1 = (dd [] ks).length := by
  have hd : (dd [] ks).Nodup := dd_nodup List.nodup_nil
  have hp : 0 < (dd [] ks).length := List.length_pos_of_mem (dd_mem (List.getElem_mem h))
  have h1 : mxN (lbl ks) ≤ (dd [] ks).length - 1 := fold_max_le (by omega) fun x hx => by
    obtain ⟨i, hi, rfl⟩ := List.getElem_of_mem hx
    have h2 := lbl_lt (ks := ks) (i := i) (by rw [lbl_length] at hi; exact hi)
    rw [getD_eq hi] at h2
    omega
  have hl : (dd [] ks)[(dd [] ks).length - 1]'(by omega) ∈ ks := mem_dd_nil (List.getElem_mem _)
  obtain ⟨i, hi, he⟩ := List.getElem_of_mem hl
  have h2 : (lbl ks).getD i 0 = (dd [] ks).length - 1 := by
    rw [lbl_getD hi, he]
    exact hd.idxOf_getElem _ _
  have h3 : (lbl ks).getD i 0 ≤ mxN (lbl ks) := fold_max_ge.2 _ (by rw [getD_eq (by rw [lbl_length]; exact hi)]; exact List.getElem_mem _)
  omega
theorem dd_all {κ : Type} [DecidableEq κ] {ks : List κ} : (dd [] ks).length = ks.length ↔ ks.Nodup := by
  constructor
  · intro h
    exact nodup_of_sub (dd_nodup List.nodup_nil) (fun x hx => mem_dd_nil hx) (by omega)
  · intro h
    have h1 := nodup_sub_le h fun x hx => dd_mem (seen := []) hx
    have h2 := dd_le ks []
    rw [List.length_nil] at h2
    omega
/-- The greatest class is the last state's number exactly if all states are of different classes. -/
theorem mxN_part {ss : List (List (List Int))} (h : 0 < ss.length) : mxN (part ss) + 1 = (dd [] (part ss)).length := by
  have := mxN_lbl (ks := part ss) (by rw [part_len]; exact h)
  rwa [part_lbl h] at this
theorem minB_iff {ss : List (List (List Int))} (h : 0 < ss.length) : minB ss = true ↔ (ordI ss).1.length = ss.length ∧ (part ss).Nodup := by
  rw [minB, Bool.and_eq_true, decide_eq_true_eq, decide_eq_true_eq, mxN_part h]
  have := dd_all (ks := part ss)
  rw [part_len] at this
  rw [this]
theorem canS_min {n : Int} {ss : List (List (List Int))} (hW : SmA n ss) : minB (canS ss) = true := by
  have hp : 0 < (canS ss).length := (canS_small hW).1
  refine (minB_iff hp).2 ⟨canS_met hW, ?_⟩
  show (part (canS ss)).Pairwise (· ≠ ·)
  rw [List.pairwise_iff_getElem]
  intro i j hi hj hij e
  rw [part_len] at hi hj
  have := canS_part hW hi hj (by unfold keyL; rw [getD_eq (by rw [part_len]; exact hi), getD_eq (by rw [part_len]; exact hj)]; exact e)
  omega
theorem splitS_min {n : Int} {ss : List (List (List Int))} {bt : Nat → Int} (hW : SpA ss bt) (h0 : chkA n ss = 0) (hl : ss.length ≤ 45) (hm : movesN ss ≤ 45) : minB (splitS ss bt) = false := by
  obtain ⟨_, ⟨hp, _, _⟩, _, _⟩ := chkA_facts h0
  cases hB : minB (splitS ss bt) with
  | false => rfl
  | true =>
    have h1 := ((minB_iff (by rw [splitS_len]; omega)).1 hB).2
    have h2 := splitS_part hW h0 hl hm (s := 0) (by omega)
    have e1 : 0 < (part (splitS ss bt)).length := by rw [part_len, splitS_len]; omega
    have e2 : 1 < (part (splitS ss bt)).length := by rw [part_len, splitS_len]; omega
    have h3 := List.pairwise_iff_getElem.1 h1 0 1 e1 e2 (by omega)
    rw [getD_eq e1, getD_eq e2] at h2
    exact absurd h2 h3

/-- Of the search: each new state is met from one that was met, by one of its moves. -/
def FsOK (ss : List (List (List Int))) (st : List Nat × List (Nat × List Int)) : Prop :=
  st.1 = 0 :: st.2.map (fun f => mvTo f.2) ∧ st.1.Nodup ∧ (∀ x ∈ st.1, x < ss.length) ∧ (∀ f ∈ st.2, f.2 ∈ ss.getD f.1 []) ∧
  (∀ x ∈ st.1, afterI ss ((wds ss.length st.2).getD x []) 0 = (x : Int)) ∧ ∀ f ∈ st.2, f.1 ∈ st.1
theorem FsOK.step {ss : List (List (List Int))} (hM : LeadOK ss) (hA : ∀ s ∈ ss, AscL (s.map rdOf)) {st : List Nat × List (Nat × List Int)} (h : FsOK ss st) {s : Nat} {m : List Int} (hs : s ∈ st.1) (hm : m ∈ ss.getD s []) (hn : mvTo m ∉ st.1) :
    FsOK ss (st.1 ++ [mvTo m], st.2 ++ [(s, m)]) := by
  obtain ⟨h1, h2, h3, h4, h5, h6⟩ := h
  have hsl := h3 s hs
  have hsm : ss.getD s [] ∈ ss := by rw [getD_eq hsl]; exact List.getElem_mem hsl
  have hto := hM _ hsm m hm
  have hlt : mvTo m < ss.length := by unfold mvTo; omega
  have hwl := wds_len ss.length st.2
  refine ⟨?_, ?_, ?_, ?_, ?_, ?_⟩
  · show st.1 ++ [mvTo m] = 0 :: (st.2 ++ [(s, m)]).map _
    rw [h1]; simp
  · show (st.1 ++ [mvTo m]).Nodup
    rw [List.nodup_append]
    refine ⟨h2, by simp, fun a ha b hb e => ?_⟩
    rw [List.mem_singleton.1 hb] at e
    exact hn (e ▸ ha)
  · intro x hx
    rcases List.mem_append.1 hx with hx | hx
    · exact h3 x hx
    · rw [List.mem_singleton.1 hx]; exact hlt
  · intro f hf
    rcases List.mem_append.1 hf with hf | hf
    · exact h4 f hf
    · rw [List.mem_singleton.1 hf]; exact hm
  · intro x hx
    show afterI ss ((wds ss.length (st.2 ++ [(s, m)])).getD x []) 0 = _
    rw [wds_snoc]
    rcases List.mem_append.1 hx with hx | hx
    · have hne : mvTo m ≠ x := fun e => hn (e ▸ hx)
      rw [List.getD_eq_getElem?_getD, List.getElem?_set_ne hne, ← List.getD_eq_getElem?_getD]
      exact h5 x hx
    · rw [List.mem_singleton.1 hx, List.getD_eq_getElem?_getD, List.getElem?_set_self (by rw [hwl]; exact hlt), Option.getD_some]
      show afterI ss ((wds ss.length st.2).getD s [] ++ [rdOf m]) 0 = _
      rw [afterI_app, h5 s hs, if_neg (by omega), Int.toNat_natCast, afterI_one, toI_mem (hA _ hsm) hm, if_neg (by omega)]
      unfold mvTo; omega
  · intro f hf
    rcases List.mem_append.1 hf with hf | hf
    · exact List.mem_append_left _ (h6 f hf)
    · rw [List.mem_singleton.1 hf]; exact List.mem_append_left _ hs
theorem FsOK.exts {ss : List (List (List Int))} (hM : LeadOK ss) (hA : ∀ s ∈ ss, AscL (s.map rdOf)) {s : Nat} : ∀ {ms : List (List Int)} {st : List Nat × List (Nat × List Int)}, FsOK ss st → s ∈ st.1 → (∀ m ∈ ms, m ∈ ss.getD s []) → FsOK ss (exts id s ms st)
  | [], _, h, _, _ => h
  | m :: r, st, h, hs, hm => by
    rw [Go.Proofs.YtfihpofdoffclaaGreatDoor.exts, List.map_id]
    by_cases hi : mvTo m ∈ st.1
    · rw [if_pos (show id (mvTo m) ∈ st.1 from hi)]
      exact FsOK.exts hM hA h hs fun x hx => hm x (by simp [hx])
    · rw [if_neg (show ¬ id (mvTo m) ∈ st.1 from hi)]
      exact FsOK.exts hM hA (h.step hM hA hs (hm m (by simp)) hi) (List.mem_append_left _ hs) fun x hx => hm x (by simp [hx])
theorem FsOK.srch {ss : List (List (List Int))} (hM : LeadOK ss) (hA : ∀ s ∈ ss, AscL (s.map rdOf)) : ∀ {f i : Nat} {st R : List Nat × List (Nat × List Int)}, FsOK ss st → srch id ss f i st = some R → FsOK ss R
  | 0, _, _, _, _, h => by cases h
  | f + 1, i, st, R, hI, h => by
    rw [Go.Proofs.YtfihpofdoffclaaGreatDoor.srch] at h
    by_cases hi : i < st.1.length
    · rw [if_pos hi] at h
      refine FsOK.srch hM hA (hI.exts hM hA ?_ fun m hm => hm) h
      rw [getD_eq hi]; exact List.getElem_mem hi
    · rw [if_neg hi] at h
      injection h with h
      subst h; exact hI
theorem ordI_ok {ss : List (List (List Int))} (h : ClsOK ss) (hA : ∀ s ∈ ss, AscL (s.map rdOf)) : FsOK ss (ordI ss) := by
  have hp := h.2.2.1
  refine FsOK.srch (LeadOK.ofCls h) hA ⟨rfl, by simp, fun x hx => ?_, by simp, fun x hx => ?_, by simp⟩ (ordI_eq h).1
  · rw [List.mem_singleton.1 hx]; exact hp
  · rw [List.mem_singleton.1 hx]
    show afterI ss ((List.replicate ss.length []).getD 0 []) 0 = _
    rw [List.getD_eq_getElem?_getD, List.getElem?_replicate, if_pos hp]; rfl
/-- Where all states are met, each has its word. -/
theorem wds_all {ss : List (List (List Int))} (h : ClsOK ss) (hA : ∀ s ∈ ss, AscL (s.map rdOf)) (hm : (ordI ss).1.length = ss.length) {i : Nat} (hi : i < ss.length) : afterI ss ((wds ss.length (ordI ss).2).getD i []) 0 = (i : Int) := by
  obtain ⟨_, h2, h3, _, h5, _⟩ := ordI_ok h hA
  refine h5 i ?_
  apply Classical.byContradiction
  intro hn
  have h6 : (i :: (ordI ss).1).Nodup := List.nodup_cons.2 ⟨hn, h2⟩
  have h7 := nodup_lt_le h6 fun x hx => by
    rcases List.mem_cons.1 hx with rfl | hx
    · exact hi
    · exact h3 x hx
  rw [List.length_cons, hm] at h7
  omega

theorem verGo_iff {ss ps : List (List (List Int))} : ∀ {c i : Nat}, verGo ss ps i c = true ↔ ∀ j, i ≤ j → j < i + c → afterI ss (ps.getD (j - 1) []) 0 = (j : Int)
  | 0, i => by simp [verGo]; intro j h1 h2; omega
  | c + 1, i => by
    rw [verGo]
    by_cases h : afterI ss (ps.getD (i - 1) []) 0 = (i : Int)
    · rw [if_pos h, verGo_iff]
      constructor
      · intro h1 j h2 h3
        by_cases e : j = i
        · subst e; exact h
        · exact h1 j (by omega) (by omega)
      · intro h1 j h2 h3
        exact h1 j (by omega) (by omega)
    · rw [if_neg h]
      exact ⟨fun h => (by cases h), fun h1 => absurd (h1 i (Nat.le_refl _) (by omega)) h⟩
/-- A word tells two states apart. -/
def Parts (ss : List (List (List Int))) (w : List (List Int)) (i k : Nat) : Prop := ¬ (alw ss w i ↔ alw ss w k)
theorem parts_iff {ss : List (List (List Int))} {w : List (List Int)} {i k : Nat} : Parts ss w i k ↔ (decide (afterI ss w i < 0) == decide (afterI ss w k < 0)) = false := by
  unfold Parts
  rw [alw_after, alw_after]
  by_cases h1 : afterI ss w i < 0 <;> by_cases h2 : afterI ss w k < 0
  · simp [h1, h2]; omega
  · simp [h1, h2]; omega
  · simp [h1, h2]; omega
  · simp [h1, h2]; omega
theorem verRow_iff {ss ps : List (List (List Int))} {i : Nat} : ∀ {c k a : Nat}, verRow ss ps i k c a = true ↔ ∀ j, j < c → Parts ss (ps.getD (a + j) []) i (k + j)
  | 0, _, _ => by simp [verRow]
  | c + 1, k, a => by
    rw [verRow]
    by_cases h : Parts ss (ps.getD a []) i k
    · rw [parts_iff.1 h, if_neg (by decide), verRow_iff]
      constructor
      · intro h1 j hj
        cases j with
        | zero => exact h
        | succ j => have := h1 j (by omega); rw [show a + 1 + j = a + (j + 1) by omega, show k + 1 + j = k + (j + 1) by omega] at this; exact this
      · intro h1 j hj
        have := h1 (j + 1) (by omega)
        rw [show a + (j + 1) = a + 1 + j by omega, show k + (j + 1) = k + 1 + j by omega] at this; exact this
    · have h2 : (decide (afterI ss (ps.getD a []) i < 0) == decide (afterI ss (ps.getD a []) k < 0)) = true := by
        cases hB : (decide (afterI ss (ps.getD a []) i < 0) == decide (afterI ss (ps.getD a []) k < 0)) with
        | true => rfl
        | false => exact absurd (parts_iff.2 hB) h
      rw [h2, if_pos rfl]
      exact ⟨fun h => (by cases h), fun h1 => absurd (h1 0 (by omega)) h⟩
theorem getD_l {α : Type} {a b : List α} {j : Nat} {d : α} (h : j < a.length) : (a ++ b).getD j d = a.getD j d := getD_app_l h
theorem getD_r {α : Type} {a b : List α} {j : Nat} {d : α} : (a ++ b).getD (a.length + j) d = b.getD j d := by
  rw [List.getD_eq_getElem?_getD, List.getElem?_append_right (by omega), Nat.add_sub_cancel_left, List.getD_eq_getElem?_getD]
/-- Words that tell all pairs of states apart are accepted. -/
theorem verAll_ok {ss ps : List (List (List Int))} (hd : ∀ i k, i < k → k < ss.length → Parts ss ((dist ss i k).getD []) i k) : ∀ {c i a : Nat}, i + c = ss.length → (∀ j, j < tri c → ps.getD (a + j) [] = (prAll ss i c).getD j []) → verAll ss ps i c a = true
  | 0, _, _, _, _ => rfl
  | c + 1, i, a, hc, h => by
    rw [verAll, Bool.and_eq_true]
    have hrl := prRow_len ss i c (i + 1)
    constructor
    · rw [verRow_iff]
      intro j hj
      have h1 := h j (by rw [tri]; omega)
      rw [prAll, getD_l (by omega)] at h1
      rw [h1]
      have key : ∀ (m k j : Nat), j < m → (prRow ss i k m).getD j [] = (dist ss i (k + j)).getD [] := by
        intro m
        induction m with
        | zero => intro k j hj; omega
        | succ m ih =>
          intro k j hj
          rw [prRow]
          cases j with
          | zero => rfl
          | succ j => rw [List.getD_cons_succ, ih (k + 1) j (by omega), show k + 1 + j = k + (j + 1) by omega]
      rw [key c (i + 1) j hj]
      exact hd i (i + 1 + j) (by omega) (by omega)
    · refine verAll_ok hd (by omega) fun j hj => ?_
      have h1 := h (c + j) (by rw [tri]; omega)
      rw [prAll] at h1
      have e : (prRow ss i (i + 1) c ++ prAll ss (i + 1) c).getD (c + j) [] = (prAll ss (i + 1) c).getD j [] := by
        have := getD_r (a := prRow ss i (i + 1) c) (b := prAll ss (i + 1) c) (j := j) (d := [])
        rw [hrl] at this; exact this
      rw [e] at h1
      rw [← h1, Nat.add_assoc]
theorem prvL_len (ss : List (List (List Int))) : (prvL ss).length = ss.length - 1 + tri ss.length := by
  rw [prvL, List.length_append, List.length_drop, wds_len, prAll_len]
/-- The proof of a minimal adversary is accepted. -/
theorem verI_prv {n : Int} {ss : List (List (List Int))} (hW : SmA n ss) (hm : minB ss = true) : verI n ss (prvL ss) = 0 := by
  have hO := hW.cls
  have hp := hW.pos
  obtain ⟨m1, m2⟩ := (minB_iff hp).1 hm
  have hne : ∀ i k, i < k → k < ss.length → keyL (part ss) i ≠ keyL (part ss) k := fun i k hik hk e => by
    have e1 : i < (part ss).length := by rw [part_len]; omega
    have e2 : k < (part ss).length := by rw [part_len]; omega
    unfold keyL at e
    rw [getD_eq e1, getD_eq e2] at e
    exact List.pairwise_iff_getElem.1 m2 i k e1 e2 hik e
  have hwl := wds_len ss.length (ordI ss).2
  have h1 : verGo ss (prvL ss) 1 (ss.length - 1) = true := verGo_iff.2 fun j h1 h2 => by
    rw [prvL, getD_l (by rw [List.length_drop, hwl]; omega), List.getD_eq_getElem?_getD, List.getElem?_drop, ← List.getD_eq_getElem?_getD, show 1 + (j - 1) = j by omega]
    exact wds_all hO hW.asc m1 (by omega)
  have h2 : verAll ss (prvL ss) 0 ss.length (ss.length - 1) = true := verAll_ok (fun i k hik hk => by
      have h3 := dist_ok hW.lead (s := i) (t := k) (by omega) hk
      have h4 := mt (dist_none hW.lead hW.asc (s := i) (t := k) (by omega) hk).1 (hne i k hik hk)
      cases hd : dist ss i k with
      | none => exact absurd hd h4
      | some w =>
        rw [hd] at h3
        obtain ⟨_, _, _, _, _, h5, _⟩ := h3
        exact h5) (by omega) fun j hj => by
    rw [prvL]
    have := getD_r (a := (wds ss.length (ordI ss).2).drop 1) (b := prAll ss 0 ss.length) (j := j) (d := [])
    rw [List.length_drop, hwl] at this
    exact this
  unfold verI
  rw [if_neg (fun k => k hW.2.1), if_neg (fun k => k (prvL_len ss)), h1, h2]; rfl
/-- A proof with an empty word is refused. -/
theorem verI_bad {n : Int} {ss ps : List (List (List Int))} (hW : SmA n ss) (hl : ps.length = ss.length - 1 + tri ss.length) {k : Nat} (hk : k < ps.length) : verI n ss (ps.set k []) = 18 := by
  have hp := hW.pos
  have hk0 : (ps.set k []).getD k [] = [] := by rw [List.getD_eq_getElem?_getD, List.getElem?_set_self hk]; rfl
  unfold verI
  rw [if_neg (fun k => k hW.2.1), if_neg (by rw [List.length_set]; exact fun k => k hl)]
  have : (verGo ss (ps.set k []) 1 (ss.length - 1) && verAll ss (ps.set k []) 0 ss.length (ss.length - 1)) = false := by
    by_cases h : k < ss.length - 1
    · cases hB : verGo ss (ps.set k []) 1 (ss.length - 1) with
      | false => rfl
      | true =>
        have h1 := verGo_iff.1 hB (k + 1) (by omega) (by omega)
        rw [Nat.add_sub_cancel, hk0, afterI] at h1
        omega
    · cases hB : verAll ss (ps.set k []) 0 ss.length (ss.length - 1) with
      | false => rw [Bool.and_false]
      | true =>
        exfalso
        have key : ∀ (c i a j : Nat), verAll ss (ps.set k []) i c a = true → a + j = k → j < tri c → False := by
          intro c
          induction c with
          | zero => intro i a j _ _ h; simp [tri] at h
          | succ c ih =>
            intro i a j h1 h2 h3
            rw [verAll, Bool.and_eq_true] at h1
            rw [tri] at h3
            by_cases hj : j < c
            · have h4 := verRow_iff.1 h1.1 j hj
              rw [h2, hk0] at h4
              exact h4 Iff.rfl
            · exact ih (i + 1) (a + c) (j - c) h1.2 (by omega) (by omega)
        exact key _ 0 (ss.length - 1) (k - (ss.length - 1)) hB (by omega) (by omega)
  rw [this]; rfl
/-- .. and one with a word less. -/
theorem verI_short {n : Int} {ss ps : List (List (List Int))} (hW : SmA n ss) (hl : ps.length = ss.length - 1 + tri ss.length) (hk : 0 < ps.length) : verI n ss (ps.drop 1) = 15 := by
  unfold verI
  rw [if_neg (fun k => k hW.2.1), if_pos (by rw [List.length_drop]; omega)]
end Go.Proofs.YtfihpofdoffclaaGreatDoor

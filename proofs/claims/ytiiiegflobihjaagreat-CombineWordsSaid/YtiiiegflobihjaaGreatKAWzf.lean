/- Texts of this claim, put together: GD GE GF GG GH. -/
import Derived.Test.YtiiiegflobihjaaGreatKAWze
import Derived.Test.YtiiiegflobihjaaGreatKAWu

/- Adversaries that permit the same words list the same words. Plain lists. -/
namespace Go.Proofs.YtiiiegflobihjaaGreat

/-- States that permit the same words. -/
def EqL (ss tt : List (List (List Int))) (s t : Nat) : Prop := s < ss.length ∧ t < tt.length ∧ ∀ w : List (List Int), alw ss w s ↔ alw tt w t
theorem sim_of_alw {ss tt : List (List (List Int))} (hA : ∀ s ∈ ss, AscL (s.map rdOf)) (hM : LeadOK ss) (hA' : ∀ s ∈ tt, AscL (s.map rdOf)) (hM' : LeadOK tt) : SimR (EqL ss tt) ss tt := fun s t h => by
  obtain ⟨h1, h2, h3⟩ := h
  have i1 : ss.getD s [] ∈ ss := by rw [getD_eq h1]; exact List.getElem_mem h1
  have i2 : tt.getD t [] ∈ tt := by rw [getD_eq h2]; exact List.getElem_mem h2
  have hr : (ss.getD s []).map rdOf = (tt.getD t []).map rdOf := asc_unique (hA _ i1) (hA' _ i2) fun r => by
    have h4 := h3 [r]
    simp only [alw, and_true] at h4
    rw [toI_in fun m hm => (hM _ i1 m hm).1, toI_in fun m hm => (hM' _ i2 m hm).1] at h4
    exact h4
  refine All2.of_map' (fun a ha b hb e => ⟨e, ?_⟩) hr
  obtain ⟨a1, a2⟩ := hM _ i1 a ha
  obtain ⟨b1, b2⟩ := hM' _ i2 b hb
  refine ⟨by rw [mvTo]; omega, by rw [mvTo]; omega, fun w => ?_⟩
  rw [← alw_cons_mem hA hM ha, ← alw_cons_mem hA' hM' hb, e]
  exact h3 _
/-- Keys below K, each once, and few moves: the exploration passes no limit. -/
theorem exG_fit {step : Nd → List (List Int × Nd)} {P : Nd → Prop} (hPs : ∀ x, P x → ∀ a ∈ step x, P a.2) (key : Nd → Nat) (K : Nat) (hK : K ≤ 256) (hlt : ∀ x, P x → key x < K) (hinj : ∀ x y, P x → P y → key x = key y → x = y)
    (f : Nat → Nat) (hf : ∀ x, P x → (step x).length ≤ f (key x)) (hs : SS f K ≤ 4096) : ∀ (fu i : Nat) (nodes : List Nd) (out : List (List (List Int))), 257 ≤ fu + i → 0 < fu → i ≤ nodes.length → nodes.Nodup → (∀ x ∈ nodes, P x) → movesN out ≤ ((nodes.take i).map fun x => f (key x)).sum → out.length = i → ∃ S, exG step fu i nodes out = some (some S) ∧ S.length ≤ K
  | 0, _, _, _, _, h, _, _, _, _, _ => absurd h (by omega)
  | fu + 1, i, nodes, out, h1, _, h3, h4, h5, h6, h7 => by
    have hkeys : ∀ l : List Nd, l.Nodup → (∀ x ∈ l, P x) → (l.map key).Nodup ∧ ∀ k ∈ l.map key, k < K := fun l hn hp => by
      refine ⟨?_, fun k hk => ?_⟩
      · rw [List.Nodup, List.pairwise_map]
        refine List.Pairwise.imp_of_mem (fun {a b} ha hb hab e => hab (hinj a b (hp a ha) (hp b hb) e)) hn
      · obtain ⟨x, hx, rfl⟩ := List.mem_map.1 hk
        exact hlt x (hp x hx)
    have hlen : ∀ l : List Nd, l.Nodup → (∀ x ∈ l, P x) → l.length ≤ K := fun l hn hp => by
      obtain ⟨q1, q2⟩ := hkeys l hn hp
      have := nodup_len K _ q1 q2
      rwa [List.length_map] at this
    have hsum : ∀ l : List Nd, l.Nodup → (∀ x ∈ l, P x) → (l.map fun x => f (key x)).sum ≤ 4096 := fun l hn hp => by
      obtain ⟨q1, q2⟩ := hkeys l hn hp
      have := sum_nodup f K _ q1 q2
      rw [List.map_map] at this
      exact Nat.le_trans this hs
    by_cases hi : i < nodes.length
    · have hx := List.getElem?_eq_getElem hi
      have hPx := h5 _ (List.getElem_mem hi)
      have hn' : (exN nodes (step nodes[i])).Nodup := exN_nodup h4
      have hP' : ∀ x ∈ exN nodes (step nodes[i]), P x := fun z hz => by
        rcases exN_mem hz with hz | ⟨a, ha, rfl⟩
        · exact h5 z hz
        · exact hPs _ hPx a ha
      have hge : nodes.length ≤ (exN nodes (step nodes[i])).length := exN_ge
      obtain ⟨t, ht⟩ := dd_pre ((step nodes[i]).map Prod.snd) nodes
      have ht : exN nodes (step nodes[i]) = nodes ++ t := ht
      have hm' : movesN (out ++ [exL nodes (step nodes[i])]) ≤ (((exN nodes (step nodes[i])).take (i + 1)).map fun x => f (key x)).sum := by
        rw [movesN_snoc, exL_length, ht, List.take_append_of_le_length (by omega), List.take_succ_eq_append_getElem hi, List.map_append, List.sum_append]
        have := hf _ hPx
        simp only [List.map_cons, List.map_nil, List.sum_cons, List.sum_nil]
        omega
      have hb : ¬ (256 < (exN nodes (step nodes[i])).length ∨ 4096 < movesN (out ++ [exL nodes (step nodes[i])])) := by
        have q1 := hlen _ hn' hP'
        have q2 := hsum _ (List.Pairwise.sublist (List.take_sublist _ _) hn') (fun z hz => hP' z (List.mem_of_mem_take (i := i + 1) hz))
        omega
      rw [exG_step hx hb]
      have := hlen _ h4 h5
      exact exG_fit hPs key K hK hlt hinj f hf hs fu (i + 1) _ _ (by omega) (by omega) (by omega) hn' hP' hm' (by rw [List.length_append, h7]; rfl)
    · exact ⟨_, exG_end hi, by have := hlen _ h4 h5; omega⟩
theorem SS_add (f : Nat → Nat) (a : Nat) : ∀ b : Nat, SS f (a + b) = SS f a + SS (fun k => f (a + k)) b
  | 0 => by simp [SS]
  | b + 1 => by
    rw [← Nat.add_assoc, SS, SS_add f a b, SS]; omega
theorem SS_congr {f g : Nat → Nat} : ∀ {n : Nat}, (∀ k, k < n → f k = g k) → SS f n = SS g n
  | 0, _ => rfl
  | n + 1, h => by rw [SS, SS, SS_congr (fun k hk => h k (by omega)), h n (by omega)]
theorem SS_plus (c : Nat) (g : Nat → Nat) : ∀ n : Nat, SS (fun k => c + g k) n = n * c + SS g n
  | 0 => by simp [SS]
  | n + 1 => by rw [SS, SS, SS_plus c g n, Nat.succ_mul]; omega
/-- Sums over pairs. -/
theorem SS_pair (g h : Nat → Nat) (b : Nat) (hb : 0 < b) : ∀ a : Nat, SS (fun k => g (k / b) + h (k % b)) (a * b) = b * SS g a + a * SS h b
  | 0 => by simp [SS]
  | a + 1 => by
    have e : SS (fun k => g ((a * b + k) / b) + h ((a * b + k) % b)) b = b * g a + SS h b := by
      rw [SS_congr (g := fun k => g a + h k) (fun k hk => ?_), SS_plus]
      have h1 : (a * b + k) / b = a := by rw [Nat.mul_comm, Nat.mul_add_div hb, Nat.div_eq_of_lt hk]; omega
      have h2 : (a * b + k) % b = k := by rw [Nat.mul_comm, Nat.mul_add_mod]; exact Nat.mod_eq_of_lt hk
      rw [h1, h2]
    have e2 : SS g (a + 1) = SS g a + g a := rfl
    rw [Nat.succ_mul, SS_add, SS_pair g h b hb a, e, e2, Nat.succ_mul, Nat.mul_add]
    omega
end Go.Proofs.YtiiiegflobihjaaGreat

/- Or of two few adversaries passes no limit; what it makes is well-formed. Plain lists. -/
namespace Go.Proofs.YtiiiegflobihjaaGreat

def mvl (ss : List (List (List Int))) (i : Nat) : Nat := (ndM ss ((i : Int) - 1)).length
theorem SS_mvl (ss : List (List (List Int))) : SS (mvl ss) (ss.length + 1) = movesN ss := by
  rw [Nat.add_comm, SS_add, ← SS_movesN ss]
  have h0 : SS (mvl ss) 1 = 0 := by simp [SS, mvl, ndM]
  rw [h0, Nat.zero_add]
  refine SS_congr fun k _ => ?_
  rw [mvl, ndM, if_neg (by omega)]
  congr 2
  omega
def kyP (b : Nat) (x : Nd) : Nat := (x.1 + 1).toNat * (b + 1) + (x.2.1 + 1).toNat
def mvP (az bz : List (List (List Int))) (k : Nat) : Nat := mvl az (k / (bz.length + 1)) + mvl bz (k % (bz.length + 1))
theorem SS_mvP (az bz : List (List (List Int))) : SS (mvP az bz) ((az.length + 1) * (bz.length + 1)) = (bz.length + 1) * movesN az + (az.length + 1) * movesN bz := by
  have h := SS_pair (mvl az) (mvl bz) (bz.length + 1) (by omega) (az.length + 1)
  rw [SS_mvl, SS_mvl] at h
  exact h
theorem kyP_div {az bz : List (List (List Int))} {x : Nd} (hx : PrP az bz x) : kyP bz.length x / (bz.length + 1) = (x.1 + 1).toNat ∧ kyP bz.length x % (bz.length + 1) = (x.2.1 + 1).toNat := by
  obtain ⟨h1, h2, _, _⟩ := hx
  have hlt : (x.2.1 + 1).toNat < bz.length + 1 := by omega
  rw [kyP]
  refine ⟨?_, ?_⟩
  · rw [Nat.mul_comm, Nat.mul_add_div (by omega), Nat.div_eq_of_lt hlt]; omega
  · rw [Nat.mul_comm, Nat.mul_add_mod]; exact Nat.mod_eq_of_lt hlt
theorem kyP_lt {az bz : List (List (List Int))} {x : Nd} (hx : PrP az bz x) : kyP bz.length x < (az.length + 1) * (bz.length + 1) := by
  obtain ⟨h1, h2, _, _⟩ := hx
  have q1 : (x.1 + 1).toNat ≤ az.length := by omega
  have q2 : (x.2.1 + 1).toNat < bz.length + 1 := by omega
  rw [kyP, Nat.succ_mul]
  have := Nat.mul_le_mul_right (bz.length + 1) q1
  omega
theorem kyP_inj {az bz : List (List (List Int))} {x y : Nd} (hx : PrP az bz x) (hy : PrP az bz y) (h : kyP bz.length x = kyP bz.length y) : x = y := by
  obtain ⟨a1, a2⟩ := kyP_div hx
  obtain ⟨b1, b2⟩ := kyP_div hy
  rw [h] at a1 a2
  rw [b1] at a1
  rw [b2] at a2
  obtain ⟨h1, h2, _, h3⟩ := hx
  obtain ⟨g1, g2, _, g3⟩ := hy
  obtain ⟨x1, x2, x3⟩ := x
  obtain ⟨y1, y2, y3⟩ := y
  simp only at h1 h2 h3 g1 g2 g3 a1 a2
  subst h3 g3
  have e1 : x1 = y1 := by omega
  have e2 : x2 = y2 := by omega
  subst e1 e2
  rfl
theorem prSt_len {bt : Bool} {az bz : List (List (List Int))} {x : Nd} (hx : PrP az bz x) : (prSt bt az bz x).length ≤ mvP az bz (kyP bz.length x) := by
  obtain ⟨a1, a2⟩ := kyP_div hx
  obtain ⟨h1, h2, _, _⟩ := hx
  rw [mvP, a1, a2, mvl, mvl]
  have e1 : (((x.1 + 1).toNat : Nat) : Int) - 1 = x.1 := by omega
  have e2 : (((x.2.1 + 1).toNat : Nat) : Int) - 1 = x.2.1 := by omega
  rw [e1, e2]
  refine Nat.le_trans (List.length_filterMap_le _ _) (Nat.le_trans (lets_len _) ?_)
  rw [List.length_map, List.length_append]
  exact Nat.le_refl _
/-- The pairs of two adversaries of few states and moves pass no limit. -/
theorem prA_some {bt : Bool} {az bz : List (List (List Int))} (wA : AdOK az) (wB : AdOK bz) (hK : (az.length + 1) * (bz.length + 1) ≤ 256) (hM : (bz.length + 1) * movesN az + (az.length + 1) * movesN bz ≤ 4096) : ∃ S, prA bt az bz = some S := by
  obtain ⟨S, hS, _⟩ := exG_fit (step := prSt bt az bz) (P := PrP az bz) (fun x hx a ha => ((prSt_ok wA wB hx).1 a ha).1) (kyP bz.length) _ hK (fun x hx => kyP_lt hx) (fun x y hx hy => kyP_inj hx hy) (mvP az bz) (fun x hx => prSt_len hx) (by rw [SS_mvP]; exact hM)
    300 0 [nd0] [] (by omega) (by omega) (by simp) (by simp) (fun x hx => by rw [List.mem_singleton.1 hx]; exact PrP.first wA wB) (by simp [movesN]) rfl
  refine ⟨S, ?_⟩
  rw [prA, hS]; rfl
theorem prA_len {bt : Bool} {az bz S : List (List (List Int))} (wA : AdOK az) (wB : AdOK bz) (h : prA bt az bz = some S) : S.length ≤ (az.length + 1) * (bz.length + 1) := by
  obtain ⟨N, t, h1, h2, h3, h4, _⟩ := prA_shape wA wB h
  have hn : (N.map (kyP bz.length)).Nodup := by
    rw [List.Nodup, List.pairwise_map]
    exact List.Pairwise.imp_of_mem (fun {a b} ha hb hab e => hab (kyP_inj (h4 a ha) (h4 b hb) e)) h2
  have := nodup_len _ _ hn fun k hk => by
    obtain ⟨x, hx, rfl⟩ := List.mem_map.1 hk
    exact kyP_lt (h4 x hx)
  rw [List.length_map] at this
  omega
/-- What the exploration of steps makes is ascending. -/
theorem ExSh.asc {step : Nd → List (List Int × Nd)} {N : List Nd} {ss : List (List (List Int))} (hs : ExSh step N ss N.length) (hl : N.length = ss.length) (h7 : ∀ x ∈ N, ∀ a ∈ step x, a.1.length = 7) (hn : ∀ x ∈ N, AscL ((step x).map Prod.fst)) : (∀ s ∈ ss, AscL (s.map rdOf)) ∧ LeadOK ss := by
  have one : ∀ s ∈ ss, ∃ x ∈ N, s = (step x).map (fun a => a.1 ++ [(ixOf N a.2 : Int)]) ∧ ∀ a ∈ step x, a.2 ∈ N := fun s hsm => by
    obtain ⟨j, hj, rfl⟩ := List.mem_iff_getElem.1 hsm
    obtain ⟨x, e1, e2, e3⟩ := hs j (by omega)
    rw [List.getElem?_eq_getElem hj] at e2
    injection e2 with e2
    exact ⟨x, List.mem_of_getElem? e1, e2, e3⟩
  refine ⟨fun s hsm => ?_, fun s hsm m hm => ?_⟩
  · obtain ⟨x, hx, rfl, _⟩ := one s hsm
    rw [List.map_map, show (step x).map (rdOf ∘ fun a => a.1 ++ [(ixOf N a.2 : Int)]) = (step x).map Prod.fst from List.map_congr_left fun a ha => rdOf_app (h7 x hx a ha) _]
    exact hn x hx
  · obtain ⟨x, hx, rfl, e3⟩ := one s hsm
    obtain ⟨a, ha, rfl⟩ := List.mem_map.1 hm
    rw [show 7 = a.1.length from (h7 x hx a ha).symm]
    have := ixOf_lt (e3 a ha)
    simp
    omega
end Go.Proofs.YtiiiegflobihjaaGreat

/- What Or and And make is well-formed. Plain lists. -/
namespace Go.Proofs.YtiiiegflobihjaaGreat

/-- The rounds of a node's steps are well-formed; the faulty processes remain so. -/
def StpW (n : Int) (step : Nd → List (List Int × Nd)) (x : Nd) : Prop :=
  ∀ a ∈ step x, chkRd a.1 = 0 ∧ a.1.getD 0 0 = n ∧ ∀ b ∈ step a.2, insideB (a.1.getD 6 0) (b.1.getD 6 0) = true
theorem ExSh.stW {n : Int} {step : Nd → List (List Int × Nd)} {N : List Nd} {ss : List (List (List Int))} (hs : ExSh step N ss N.length) (hl : N.length = ss.length) (h7 : ∀ x ∈ N, ∀ a ∈ step x, a.1.length = 7) (hn : ∀ x ∈ N, AscL ((step x).map Prod.fst)) (hw : ∀ x ∈ N, StpW n step x) {s : Nat} (hlt : s < ss.length) :
    AscL ((ss.getD s []).map rdOf) ∧ ∀ m ∈ ss.getD s [], chkRd (rdOf m) = 0 ∧ (rdOf m).getD 0 0 = n ∧ ∀ k ∈ ss.getD (mvTo m) [], insideB ((rdOf m).getD 6 0) ((rdOf k).getD 6 0) = true := by
  have at' : ∀ j, j < N.length → ∃ x, N[j]? = some x ∧ ss.getD j [] = (step x).map (fun a => a.1 ++ [(ixOf N a.2 : Int)]) ∧ ∀ a ∈ step x, a.2 ∈ N := fun j hj => by
    obtain ⟨x, e1, e2, e3⟩ := hs j hj
    exact ⟨x, e1, by rw [List.getD_eq_getElem?_getD, e2]; rfl, e3⟩
  obtain ⟨hA, _⟩ := hs.asc hl h7 hn
  refine ⟨hA _ (by rw [getD_eq hlt]; exact List.getElem_mem hlt), fun m hm => ?_⟩
  obtain ⟨x, e1, e2, e3⟩ := at' s (by omega)
  have hxm := List.mem_of_getElem? e1
  rw [e2] at hm
  obtain ⟨a, ha, rfl⟩ := List.mem_map.1 hm
  rw [rdOf_app (h7 x hxm a ha)]
  obtain ⟨w1, w2, w3⟩ := hw x hxm a ha
  refine ⟨w1, w2, fun k hk => ?_⟩
  have hmt : mvTo (a.1 ++ [(ixOf N a.2 : Int)]) = ixOf N a.2 := by
    rw [mvTo, show 7 = a.1.length from (h7 x hxm a ha).symm]
    simp
  obtain ⟨y, f1, f2, f3⟩ := at' (ixOf N a.2) (ixOf_lt (e3 a ha))
  rw [ixOf_get (e3 a ha)] at f1
  injection f1 with f1
  subst f1
  rw [hmt, f2] at hk
  obtain ⟨b, hb, rfl⟩ := List.mem_map.1 hk
  rw [rdOf_app (h7 _ (e3 a ha) b hb)]
  exact w3 b hb
theorem ndM_stW {n : Int} {ss : List (List (List Int))} (h : chkA n ss = 0) {s : Int} (hs : s < (ss.length : Int)) {m : List Int} (hm : m ∈ ndM ss s) : 0 ≤ s ∧ chkRd (rdOf m) = 0 ∧ (rdOf m).getD 0 0 = n ∧ ∀ k ∈ ss.getD (mvTo m) [], insideB ((rdOf m).getD 6 0) ((rdOf k).getD 6 0) = true := by
  rw [ndM] at hm
  split at hm
  · cases hm
  · exact ⟨by omega, (stW_of h s.toNat (by omega)).2.2 m hm⟩
theorem prSt_W {n : Int} {bt : Bool} {az bz : List (List (List Int))} (wA : AdOK az) (wB : AdOK bz) (cA : chkA n az = 0) (cB : chkA n bz = 0) {x : Nd} (hx : PrP az bz x) : StpW n (prSt bt az bz) x := by
  obtain ⟨h1, h2, _, _⟩ := hx
  rintro ⟨r, y⟩ ha
  obtain ⟨r1, _, rfl⟩ := prSt_step.1 ha
  have hr := (lets_mem _ _).1 r1
  rw [List.map_append, List.mem_append] at hr
  have good : chkRd r = 0 ∧ r.getD 0 0 = n := by
    rcases hr with hr | hr
    · obtain ⟨m, hm, rfl⟩ := List.mem_map.1 hr
      obtain ⟨_, g1, g2, _⟩ := ndM_stW cA h1.2 hm
      exact ⟨g1, g2⟩
    · obtain ⟨m, hm, rfl⟩ := List.mem_map.1 hr
      obtain ⟨_, g1, g2, _⟩ := ndM_stW cB h2.2 hm
      exact ⟨g1, g2⟩
  refine ⟨good.1, good.2, ?_⟩
  rintro ⟨r', z⟩ hb
  obtain ⟨r2, _, _⟩ := prSt_step.1 hb
  have hr' := (lets_mem _ _).1 r2
  rw [List.map_append, List.mem_append] at hr'
  have one : ∀ {ss : List (List (List Int))} (_ : AdOK ss) (_ : chkA n ss = 0) (s : Int), s < (ss.length : Int) → r' ∈ (ndM ss (ndT ss s r)).map rdOf → insideB (r.getD 6 0) (r'.getD 6 0) = true := fun {ss} wS cS s hs hq => by
    obtain ⟨k, hk, rfl⟩ := List.mem_map.1 hq
    rw [ndM] at hk
    by_cases h0 : ndT ss s r < 0
    · rw [if_pos h0] at hk; cases hk
    · rw [if_neg h0] at hk
      rw [ndT] at h0 hk
      by_cases h3 : s < 0
      · rw [if_pos h3] at h0; exact absurd h0 (by decide)
      · rw [if_neg h3] at h0 hk
        obtain ⟨m, hm, rfl, e⟩ := toI_some (x := ss.getD s.toNat []) (r := r) (by omega)
        rw [e] at hk
        exact ((stW_of cS s.toNat (by omega)).2.2 m hm).2.2 k hk
  rcases hr' with hq | hq
  · exact one wA cA x.1 h1.2 hq
  · exact one wB cB x.2.1 h2.2 hq
/-- What Or makes is well-formed. -/
theorem or_chk {n : Int} {az bz S : List (List (List Int))} (wA : AdOK az) (wB : AdOK bz) (cA : chkA n az = 0) (cB : chkA n bz = 0) (mA : ∀ s ∈ az, s.length ≤ 200) (mB : ∀ s ∈ bz, s.length ≤ 200) (h : prA false az bz = some S) : chkA n S = 0 ∧ AdOK S := by
  obtain ⟨N, t, h1, h2, h3, h4, h5⟩ := prA_shape wA wB h
  obtain ⟨l1, l2⟩ := prA_lim h
  have h7 : ∀ x ∈ N, ∀ a ∈ prSt false az bz x, a.1.length = 7 := fun x hx a ha => ((prSt_ok wA wB (h4 x hx)).1 a ha).2
  have hn : ∀ x ∈ N, AscL ((prSt false az bz x).map Prod.fst) := fun x _ => prSt_asc false az bz x
  have hw : ∀ x ∈ N, StpW n (prSt false az bz) x := fun x hx => prSt_W wA wB cA cB (h4 x hx)
  obtain ⟨hA, hM⟩ := h5.asc h3 h7 hn
  have hpos : 1 ≤ S.length := by rw [← h3, h1, List.length_cons]; omega
  have hst : ∀ s, s < S.length → 0 < (S.getD s []).length := fun s hs => by
    obtain ⟨x, e1, e2, _⟩ := h5 s (by omega)
    have hx := h4 x (List.mem_of_getElem? e1)
    rw [List.getD_eq_getElem?_getD, e2]
    show 0 < (List.map _ _).length
    rw [List.length_map]
    obtain ⟨r, hr⟩ := List.exists_mem_of_length_pos (prRs_pos wA wB hx)
    exact List.length_pos_of_mem (a := (r, _)) (prSt_step.2 ⟨hr, rfl, rfl⟩)
  have hmem : ∀ s ∈ S, ∃ i, i < S.length ∧ S.getD i [] = s := fun s hs => by
    obtain ⟨i, hi, rfl⟩ := List.getElem_of_mem hs
    exact ⟨i, hi, getD_eq hi _⟩
  obtain ⟨q1, _⟩ := prA_W wA wB h
  refine ⟨chkA_of (chkA_facts cA).1 ⟨hpos, l1⟩ l2 hM fun s hs => ⟨hst s hs, h5.stW h3 h7 hn hw hs⟩, ⟨hpos, by omega, fun s hs => ⟨?_, ?_, hA s hs, q1 s hs⟩⟩⟩
  · obtain ⟨i, hi, rfl⟩ := hmem s hs
    exact hst i hi
  · obtain ⟨i, hi, rfl⟩ := hmem s hs
    obtain ⟨x, e1, e2, _⟩ := h5 i (by omega)
    rw [List.getD_eq_getElem?_getD, e2]
    show (List.map _ _).length ≤ 400
    rw [List.length_map]
    obtain ⟨g1, g2, _, _⟩ := h4 x (List.mem_of_getElem? e1)
    have one : ∀ {ss : List (List (List Int))} (_ : ∀ s ∈ ss, s.length ≤ 200) (k : Int), k < (ss.length : Int) → (ndM ss k).length ≤ 200 := fun {ss} hb k hk => by
      rw [ndM]
      split
      · simp
      · exact hb _ (by rw [getD_eq (by omega)]; exact List.getElem_mem (by omega))
    have b1 := one mA x.1 g1.2
    have b2 := one mB x.2.1 g2.2
    have b3 : (prSt false az bz x).length ≤ (prRs az bz x).length := List.length_filterMap_le _ _
    have b4 : (prRs az bz x).length ≤ ((ndM az x.1 ++ ndM bz x.2.1).map rdOf).length := lets_len _
    rw [List.length_map, List.length_append] at b4
    omega
theorem lvSt_W {n : Int} {ss : List (List (List Int))} (hw : ∀ s, s < ss.length → ∀ m ∈ ss.getD s [], chkRd (rdOf m) = 0 ∧ (rdOf m).getD 0 0 = n ∧ ∀ k ∈ ss.getD (mvTo m) [], insideB ((rdOf m).getD 6 0) ((rdOf k).getD 6 0) = true) (live : List Bool) {x : Nd} (hx : PL ss x) : StpW n (lvSt ss live) x := by
  rintro ⟨r, y⟩ ha
  obtain ⟨m, hm, _, rfl, rfl⟩ := lvSt_step.1 ha
  obtain ⟨g1, g2, g3⟩ := hw x.1.toNat hx.2.2 m hm
  refine ⟨g1, g2, ?_⟩
  rintro ⟨r', z⟩ hb
  obtain ⟨k, hk, _, rfl, _⟩ := lvSt_step.1 hb
  exact g3 k (by simpa using hk)
theorem AdW.lead {ss : List (List (List Int))} (h : AdW ss) : LeadOK ss := fun s hs m hm => ((h.st s hs).2 m hm).2
theorem lvR_ex {ss S : List (List (List Int))} (h : lvR ss = some S) : exG (lvSt ss (lvA ss)) 300 0 [nd0] [] = some (some S) := by
  obtain ⟨R, hR⟩ := exG_some (lvSt ss (lvA ss)) 300 0 [nd0] [] (by simp) (by omega) (by omega)
  rw [hR]
  rw [lvR, hR] at h
  exact congrArg some h
def PLv (ss : List (List (List Int))) (x : Nd) : Prop := PL ss x ∧ (lvA ss).getD x.1.toNat false = true
theorem lvR_shapeL {ss S : List (List (List Int))} (wS : AdW ss) (h0 : (lvA ss).getD 0 false = true) (h : lvR ss = some S) : ∃ N t, N = nd0 :: t ∧ N.Nodup ∧ N.length = S.length ∧ (∀ x ∈ N, PLv ss x) ∧ ExSh (lvSt ss (lvA ss)) N S N.length :=
  exG_shape (P := PLv ss) (fun x hx a ha => ⟨((lvSt_ok wS _ hx.1).1 a ha).1, by
    obtain ⟨r, y⟩ := a
    obtain ⟨m, _, h2, _, rfl⟩ := lvSt_step.1 ha
    simpa using h2⟩) 300 0 [nd0] [] S (lvR_ex h) (by simp) (by simp) rfl (fun x hx => by rw [List.mem_singleton.1 hx]; exact ⟨PL.first wS, h0⟩) (fun j hj => absurd hj (by omega))
/-- What And hands back is well-formed. -/
theorem and_chk {n : Int} {az bz S T : List (List (List Int))} (wA : AdOK az) (wB : AdOK bz) (cA : chkA n az = 0) (cB : chkA n bz = 0) (h : prA true az bz = some S) (h0 : (lvA S).getD 0 false = true) (hT : lvR S = some T) : chkA n T = 0 ∧ (∀ s ∈ T, AscL (s.map rdOf)) ∧ LeadOK T ∧ ∀ w, alw T w 0 ↔ Ext S w 0 := by
  obtain ⟨N, t, h1, h2, h3, h4, h5⟩ := prA_shape wA wB h
  have wS := prA_Ad wA wB h
  have h7 : ∀ x ∈ N, ∀ a ∈ prSt true az bz x, a.1.length = 7 := fun x hx a ha => ((prSt_ok wA wB (h4 x hx)).1 a ha).2
  have hn : ∀ x ∈ N, AscL ((prSt true az bz x).map Prod.fst) := fun x _ => prSt_asc true az bz x
  have hw : ∀ x ∈ N, StpW n (prSt true az bz) x := fun x hx => prSt_W wA wB cA cB (h4 x hx)
  obtain ⟨hA, hM⟩ := h5.asc h3 h7 hn
  obtain ⟨M, t', g1, g2, g3, g4, g5⟩ := lvR_shapeL wS h0 hT
  have k7 : ∀ x ∈ M, ∀ a ∈ lvSt S (lvA S) x, a.1.length = 7 := fun x hx a ha => ((lvSt_ok wS _ (g4 x hx).1).1 a ha).2
  have kn : ∀ x ∈ M, AscL ((lvSt S (lvA S) x).map Prod.fst) := fun x hx => lvSt_asc hA _ (g4 x hx).1
  have kw : ∀ x ∈ M, StpW n (lvSt S (lvA S)) x := fun x hx => lvSt_W (fun s hs => (h5.stW h3 h7 hn hw hs).2) _ (g4 x hx).1
  obtain ⟨hA', hM'⟩ := g5.asc g3 k7 kn
  obtain ⟨l1, l2⟩ := exG_lim 300 0 [nd0] [] T (lvR_ex hT) (by simp) rfl (by simp) (by simp [movesN])
  have hpos : 1 ≤ T.length := by rw [← g3, g1, List.length_cons]; omega
  refine ⟨chkA_of (chkA_facts cA).1 ⟨hpos, l1⟩ l2 hM' fun s hs => ⟨?_, g5.stW g3 k7 kn kw hs⟩, hA', hM', fun w => lvR_alw wS hA hM h0 hT w⟩
  obtain ⟨x, e1, e2, _⟩ := g5 s (by omega)
  have hx := g4 x (List.mem_of_getElem? e1)
  rw [List.getD_eq_getElem?_getD, e2]
  show 0 < (List.map _ _).length
  rw [List.length_map]
  obtain ⟨m, hm, hl⟩ := lv_next hx.2
  exact List.length_pos_of_mem (a := (rdOf m, ((mvTo m : Int), 0, []))) (lvSt_step.2 ⟨m, hm, hl, rfl, rfl⟩)
end Go.Proofs.YtiiiegflobihjaaGreat

/- And of an adversary with one whose states know its state, and Or with one below it, pass no limit. Plain lists. -/
namespace Go.Proofs.YtiiiegflobihjaaGreat

/-- A state of R tells where az stands. -/
def Knows (az R : List (List (List Int))) (p : Nat → Int) : Prop := p 0 = 0 ∧ ∀ j, j < R.length → ∀ r : List Int, 0 ≤ toI r (R.getD j []) → ndT az (p j) r = p (toI r (R.getD j [])).toNat
theorem asc_sub_len {l l' : List (List Int)} (h : AscL l) (hs : ∀ x ∈ l, x ∈ l') : l.length ≤ l'.length := by
  have hn := asc_nodup' h
  clear h
  induction l generalizing l' with
  | nil => simp
  | cons a l ih =>
    rw [List.nodup_cons] at hn
    have h1 := ih (l' := l'.erase a) (fun x hx => (List.mem_erase_of_ne (fun e => hn.1 (by rw [← e]; exact hx))).2 (hs x (by simp [hx]))) hn.2
    have h2 : a ∈ l' := hs a (by simp)
    have h3 := List.length_erase_of_mem h2
    have h4 := List.length_pos_of_mem h2
    rw [List.length_cons]; omega
theorem SS_const (c : Nat) : ∀ n : Nat, SS (fun _ => c) n = n * c
  | 0 => by simp [SS]
  | n + 1 => by rw [SS, SS_const c n, Nat.succ_mul]
theorem prSt_lenA {bt : Bool} {az bz : List (List (List Int))} (mA : ∀ s ∈ az, s.length ≤ 40) {x : Nd} (hx : PrP az bz x) (h : ∀ a ∈ prSt bt az bz x, 0 ≤ ndT az x.1 a.1) : (prSt bt az bz x).length ≤ 40 := by
  have h1 : ((prSt bt az bz x).map Prod.fst).length ≤ ((ndM az x.1).map rdOf).length := asc_sub_len (prSt_asc bt az bz x) fun r hr => by
    obtain ⟨a, ha, rfl⟩ := List.mem_map.1 hr
    have h2 := h a ha
    rw [ndT] at h2
    rw [ndM]
    split at h2
    · exact absurd h2 (by decide)
    · rename_i h3
      rw [if_neg h3]
      obtain ⟨m, hm, e, _⟩ := toI_some h2
      exact List.mem_map.2 ⟨m, hm, e⟩
  rw [List.length_map, List.length_map] at h1
  refine Nat.le_trans h1 ?_
  obtain ⟨⟨_, hx1⟩, _⟩ := hx
  rw [ndM]
  split
  · simp
  · exact mA _ (by rw [getD_eq (by omega)]; exact List.getElem_mem (by omega))
theorem ndT_nn {ss : List (List (List Int))} {s : Int} {r : List Int} (h : 0 ≤ ndT ss s r) : 0 ≤ s ∧ 0 ≤ toI r (ss.getD s.toNat []) ∧ ndT ss s r = toI r (ss.getD s.toNat []) := by
  rw [ndT] at h ⊢
  split at h
  · exact absurd h (by decide)
  · rename_i h3
    rw [if_neg h3]
    exact ⟨by omega, h, rfl⟩
/-- And with one that knows. -/
theorem andAbs {az R : List (List (List Int))} {p : Nat → Int} (wA : AdOK az) (wR : AdOK R) (hp : Knows az R p) (mA : ∀ s ∈ az, s.length ≤ 40) (hl : R.length ≤ 100) : ∃ S, prA true az R = some S ∧ S.length ≤ R.length := by
  let P : Nd → Prop := fun x => PrP az R x ∧ 0 ≤ x.1 ∧ 0 ≤ x.2.1 ∧ x.1 = p x.2.1.toNat
  have hs : ∀ x, P x → ∀ a ∈ prSt true az R x, P a.2 ∧ 0 ≤ ndT az x.1 a.1 := fun x hx a ha => by
    obtain ⟨r, y⟩ := a
    obtain ⟨_, h2, rfl⟩ := prSt_step.1 ha
    have h3 : 0 ≤ ndT az x.1 r ∧ 0 ≤ ndT R x.2.1 r := by simpa [kpB] using h2
    obtain ⟨g1, g2, g3⟩ := ndT_nn h3.2
    refine ⟨⟨((prSt_ok wA wR hx.1).1 _ ha).1, h3.1, h3.2, ?_⟩, h3.1⟩
    show ndT az x.1 r = p (ndT R x.2.1 r).toNat
    have hlt : x.2.1.toNat < R.length := by have := hx.1.2.1; omega
    rw [g3, hx.2.2.2]
    exact hp.2 _ hlt r g2
  obtain ⟨S, hS, hL⟩ := exG_fit (step := prSt true az R) (P := P) (fun x hx a ha => (hs x hx a ha).1) (fun x => x.2.1.toNat) R.length (by omega)
    (fun x hx => by have := hx.1.2.1; have := hx.2.2.1; show x.2.1.toNat < _; omega)
    (fun x y hx hy e => by
      obtain ⟨⟨_, _, _, x3⟩, x4, x5, x6⟩ := hx
      obtain ⟨⟨_, _, _, y3⟩, y4, y5, y6⟩ := hy
      have e : x.2.1.toNat = y.2.1.toNat := e
      rw [e, ← y6] at x6
      obtain ⟨a1, a2, a3⟩ := x
      obtain ⟨b1, b2, b3⟩ := y
      simp only at x3 x5 x6 y3 y5 e
      have e2 : a2 = b2 := by omega
      subst x3 y3 x6 e2
      rfl)
    (fun _ => 40) (fun x hx => prSt_lenA mA hx.1 fun a ha => (hs x hx a ha).2) (by rw [SS_const]; omega)
    300 0 [nd0] [] (by omega) (by omega) (by simp) (by simp) (fun x hx => by
      rw [List.mem_singleton.1 hx]
      exact ⟨PrP.first wA wR, Int.le_refl _, Int.le_refl _, hp.1.symm⟩) (by simp [movesN]) rfl
  exact ⟨S, by rw [prA, hS]; rfl, hL⟩
/-- Or with one that knows and is below. -/
theorem orAbs {az R : List (List (List Int))} {p : Nat → Int} (wA : AdOK az) (wR : AdOK R) (hp : Knows az R p) (hp0 : ∀ j, j < R.length → 0 ≤ p j) (mA : ∀ s ∈ az, s.length ≤ 40) (hl : az.length + R.length ≤ 100) : ∃ S, prA false az R = some S ∧ S.length ≤ az.length + R.length := by
  let P : Nd → Prop := fun x => PrP az R x ∧ 0 ≤ x.1 ∧ (x.2.1 = -1 ∨ (0 ≤ x.2.1 ∧ x.1 = p x.2.1.toNat))
  have hs : ∀ x, P x → ∀ a ∈ prSt false az R x, P a.2 ∧ 0 ≤ ndT az x.1 a.1 := fun x hx a ha => by
    obtain ⟨r, y⟩ := a
    obtain ⟨h1, _, rfl⟩ := prSt_step.1 ha
    have hQ := ((prSt_ok wA wR hx.1).1 _ ha).1
    by_cases h3 : 0 ≤ ndT R x.2.1 r
    · obtain ⟨g1, g2, g3⟩ := ndT_nn h3
      have hlt : x.2.1.toNat < R.length := by have := hx.1.2.1; omega
      have h4 : x.1 = p x.2.1.toNat := by rcases hx.2.2 with h | h; · omega
                                          · exact h.2
      have h5 : ndT az x.1 r = p (ndT R x.2.1 r).toNat := by
        rw [g3, h4]; exact hp.2 _ hlt r g2
      have h6 : 0 ≤ p (ndT R x.2.1 r).toNat := hp0 _ (by have := hQ.2.1.2; simp only at this; omega)
      exact ⟨⟨hQ, by show 0 ≤ ndT az x.1 r; rw [h5]; exact h6, .inr ⟨h3, h5⟩⟩, by rw [h5]; exact h6⟩
    · have h4 : 0 ≤ ndT az x.1 r := ((prRs_mem wA wR).1 h1).resolve_right h3
      have h5 : ndT R x.2.1 r = -1 := by have := hQ.2.1.1; simp only at this; omega
      exact ⟨⟨hQ, h4, .inl h5⟩, h4⟩
  obtain ⟨S, hS, hL⟩ := exG_fit (step := prSt false az R) (P := P) (fun x hx a ha => (hs x hx a ha).1) (fun x => if x.2.1 = -1 then x.1.toNat else az.length + x.2.1.toNat) (az.length + R.length) (by omega)
    (fun x hx => by
      have h1 := hx.1.1
      have h2 := hx.1.2.1
      have h3 := hx.2.1
      show (if x.2.1 = -1 then x.1.toNat else az.length + x.2.1.toNat) < _
      split <;> omega)
    (fun x y hx hy e => by
      obtain ⟨⟨⟨_, x1⟩, ⟨x2, _⟩, _, x3⟩, x4, x5⟩ := hx
      obtain ⟨⟨⟨_, y1⟩, ⟨y2, _⟩, _, y3⟩, y4, y5⟩ := hy
      have e : (if x.2.1 = -1 then x.1.toNat else az.length + x.2.1.toNat) = (if y.2.1 = -1 then y.1.toNat else az.length + y.2.1.toNat) := e
      obtain ⟨a1, a2, a3⟩ := x
      obtain ⟨b1, b2, b3⟩ := y
      simp only at x1 x2 x3 x4 x5 y1 y2 y3 y4 y5 e
      subst x3 y3
      by_cases ha : a2 = -1
      · by_cases hb : b2 = -1
        · rw [if_pos ha, if_pos hb] at e
          have e1 : a1 = b1 := by omega
          subst e1 ha hb; rfl
        · rw [if_pos ha, if_neg hb] at e; omega
      · by_cases hb : b2 = -1
        · rw [if_neg ha, if_pos hb] at e; omega
        · rw [if_neg ha, if_neg hb] at e
          have e : az.length + a2.toNat = az.length + b2.toNat := e
          have q0 : 0 ≤ a2 := (x5.resolve_left ha).1
          have q9 : 0 ≤ b2 := (y5.resolve_left hb).1
          have e2 : a2 = b2 := by omega
          subst e2
          have q1 := (x5.resolve_left ha).2
          have q2 := (y5.resolve_left ha).2
          have e1 : a1 = b1 := by rw [q1, q2]
          subst e1; rfl)
    (fun _ => 40) (fun x hx => prSt_lenA mA hx.1 fun a ha => (hs x hx a ha).2) (by rw [SS_const]; omega)
    300 0 [nd0] [] (by omega) (by omega) (by simp) (by simp) (fun x hx => by
      rw [List.mem_singleton.1 hx]
      exact ⟨PrP.first wA wR, Int.le_refl _, .inr ⟨Int.le_refl _, hp.1.symm⟩⟩) (by simp [movesN]) rfl
  exact ⟨S, by rw [prA, hS]; rfl, hL⟩
end Go.Proofs.YtiiiegflobihjaaGreat

/- The combined adversaries of the law CombineAbsorbs: they exist, are well-formed, and permit what the law says. Plain lists. -/
namespace Go.Proofs.YtiiiegflobihjaaGreat

theorem knowsPr {bt : Bool} {az bz S : List (List (List Int))} (wA : AdOK az) (wB : AdOK bz) (h : prA bt az bz = some S) : ∃ p, Knows az S p ∧ (bt = true → ∀ j, j < S.length → 0 ≤ p j) := by
  have he := prA_eq bt az bz
  rw [h] at he
  obtain ⟨N, t, h1, h2, h3, h4, h5⟩ := exG_shape (P := fun x => PrP az bz x ∧ (bt = true → 0 ≤ x.1)) (fun x hx a ha => ⟨((prSt_ok wA wB hx.1).1 a ha).1, fun hb => by
    obtain ⟨r, y⟩ := a
    obtain ⟨_, q2, rfl⟩ := prSt_step.1 ha
    subst hb
    have q3 : 0 ≤ ndT az x.1 r ∧ 0 ≤ ndT bz x.2.1 r := by simpa [kpB] using q2
    exact q3.1⟩) 300 0 [nd0] [] S he (by simp) (by simp) rfl (fun x hx => by rw [List.mem_singleton.1 hx]; exact ⟨PrP.first wA wB, fun _ => Int.le_refl _⟩) (fun j hj => absurd hj (by omega))
  refine ⟨fun j => (N.getD j nd0).1, ⟨by rw [h1]; rfl, fun j hj r hr => ?_⟩, fun hb j hj => ?_⟩
  · obtain ⟨x, e1, e2, e3⟩ := h5 j (by omega)
    have hx := (h4 x (List.mem_of_getElem? e1)).1
    have e2' : S.getD j [] = (prSt bt az bz x).map fun a => a.1 ++ [(ixOf N a.2 : Int)] := by rw [List.getD_eq_getElem?_getD, e2]; rfl
    obtain ⟨m, hm, g1, g2⟩ := toI_some hr
    rw [g2]
    rw [e2'] at hm
    obtain ⟨a, ha, rfl⟩ := List.mem_map.1 hm
    have h7 := ((prSt_ok wA wB hx).1 a ha).2
    rw [rdOf_app h7] at g1
    have hmt : ((a.1 ++ [(ixOf N a.2 : Int)]).getD 7 0).toNat = ixOf N a.2 := by
      rw [show 7 = a.1.length from h7.symm]; simp
    rw [hmt]
    show ndT az (N.getD j nd0).1 r = (N.getD (ixOf N a.2) nd0).1
    rw [List.getD_eq_getElem?_getD, List.getD_eq_getElem?_getD, e1, ixOf_get (e3 a ha)]
    obtain ⟨r', y⟩ := a
    obtain ⟨_, _, rfl⟩ := prSt_step.1 ha
    have g1 : r' = r := g1
    subst g1
    rfl
  · obtain ⟨x, e1, _⟩ := h5 j (by omega)
    show 0 ≤ (N.getD j nd0).1
    rw [List.getD_eq_getElem?_getD, e1]
    exact (h4 x (List.mem_of_getElem? e1)).2 hb
theorem knowsLv {az S T : List (List (List Int))} {p : Nat → Int} (wS : AdW S) (hA : ∀ s ∈ S, AscL (s.map rdOf)) (hp : Knows az S p) (hp0 : ∀ j, j < S.length → 0 ≤ p j) (h : lvR S = some T) : ∃ q, Knows az T q ∧ ∀ j, j < T.length → 0 ≤ q j := by
  obtain ⟨N, t, h1, h2, h3, h4, h5⟩ := lvR_shape wS h
  refine ⟨fun j => p (N.getD j nd0).1.toNat, ⟨?_, fun j hj r hr => ?_⟩, fun j hj => ?_⟩
  · rw [h1]; exact hp.1
  · obtain ⟨x, e1, e2, e3⟩ := h5 j (by omega)
    have hx := h4 x (List.mem_of_getElem? e1)
    have e2' : T.getD j [] = (lvSt S (lvA S) x).map fun a => a.1 ++ [(ixOf N a.2 : Int)] := by rw [List.getD_eq_getElem?_getD, e2]; rfl
    obtain ⟨m, hm, g1, g2⟩ := toI_some hr
    rw [g2]
    rw [e2'] at hm
    obtain ⟨a, ha, rfl⟩ := List.mem_map.1 hm
    have h7 := ((lvSt_ok wS _ hx).1 a ha).2
    rw [rdOf_app h7] at g1
    have hmt : ((a.1 ++ [(ixOf N a.2 : Int)]).getD 7 0).toNat = ixOf N a.2 := by
      rw [show 7 = a.1.length from h7.symm]; simp
    rw [hmt]
    show ndT az (p (N.getD j nd0).1.toNat) r = p (N.getD (ixOf N a.2) nd0).1.toNat
    rw [List.getD_eq_getElem?_getD, List.getD_eq_getElem?_getD, e1, ixOf_get (e3 a ha)]
    obtain ⟨r', y⟩ := a
    obtain ⟨k, hk, _, rfl, rfl⟩ := lvSt_step.1 ha
    have g1 : rdOf k = r := g1
    subst g1
    have hin : S.getD x.1.toNat [] ∈ S := by rw [getD_eq hx.2.2]; exact List.getElem_mem hx.2.2
    have hto := toI_mem (hA _ hin) hk
    have hk0 := ((wS.st _ hin).2 k hk).2.1
    have := hp.2 x.1.toNat hx.2.2 (rdOf k) (by rw [hto]; exact hk0)
    rw [hto] at this
    exact this
  · obtain ⟨x, e1, _⟩ := h5 j (by omega)
    have hx := h4 x (List.mem_of_getElem? e1)
    show 0 ≤ p (N.getD j nd0).1.toNat
    rw [List.getD_eq_getElem?_getD, e1]
    exact hp0 _ hx.2.2
/-- Each permitted word goes on. -/
theorem AdOK.on {ss : List (List (List Int))} (h : AdOK ss) : ∀ (w : List (List Int)) (s : Nat), s < ss.length → alw ss w s → Ext ss w s := by
  have hM := h.w.lead
  have go : ∀ (n s : Nat), s < ss.length → ∃ u : List (List Int), u.length = n ∧ alw ss u s := by
    intro n
    induction n with
    | zero => exact fun _ _ => ⟨[], rfl, trivial⟩
    | succ n ih =>
      intro s hs
      have hin : ss.getD s [] ∈ ss := by rw [getD_eq hs]; exact List.getElem_mem hs
      obtain ⟨m, hm⟩ := List.exists_mem_of_length_pos (h.st _ hin).1
      obtain ⟨m1, m2⟩ := hM _ hin m hm
      obtain ⟨u, hu, hu2⟩ := ih (mvTo m) (by rw [mvTo]; omega)
      exact ⟨rdOf m :: u, by rw [List.length_cons, hu], (alw_cons_mem h.asc hM hm).2 hu2⟩
  intro w
  induction w with
  | nil => exact fun s hs _ n => go n s hs
  | cons r w ih =>
    intro s hs ha
    obtain ⟨m, hm, rfl, h2⟩ := alw_cons_some ha
    have hin : ss.getD s [] ∈ ss := by rw [getD_eq hs]; exact List.getElem_mem hs
    obtain ⟨m1, m2⟩ := hM _ hin m hm
    have h3 := ih (mvTo m) (by rw [mvTo]; omega) h2
    intro n
    obtain ⟨u, hu, hu2⟩ := h3 n
    exact ⟨u, hu, (alw_cons_mem h.asc hM hm).2 hu2⟩
end Go.Proofs.YtiiiegflobihjaaGreat

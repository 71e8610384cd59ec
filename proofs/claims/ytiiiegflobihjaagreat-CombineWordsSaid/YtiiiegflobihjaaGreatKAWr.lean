/- Texts of this claim, put together: CX0 CY0 CJ2. -/
import Derived.Test.YtiiiegflobihjaaGreatKAWq
import Derived.Test.YtiiiegflobihjaaGreatKAWn
import Derived.Deep.RegionHeld3
import Derived.Deep.DeepCutAuto

/- What the exploration builds: well-formed states (plain). -/
namespace Go.Proofs.YtiiiegflobihjaaGreat

theorem exG_W {step : Nd → List (List Int × Nd)} {P : Nd → Prop} (hPs : ∀ x, P x → ∀ a ∈ step x, P a.2 ∧ a.1.length = 7) : ∀ (f i : Nat) (nodes : List Nd) (out ss : List (List (List Int))), exG step f i nodes out = some (some ss) → i ≤ nodes.length → out.length = i → (∀ x ∈ nodes, P x) → (∀ l ∈ out, ∀ m ∈ l, m.length = 8 ∧ 0 ≤ m.getD 7 0 ∧ mvTo m < nodes.length) →
    (∀ l ∈ ss, ∀ m ∈ l, m.length = 8 ∧ 0 ≤ m.getD 7 0 ∧ m.getD 7 0 < (ss.length : Int)) ∧ nodes.length ≤ ss.length
  | 0, _, _, _, _, h, _, _, _, _ => by simp [exG] at h
  | f + 1, i, nodes, out, ss, h, hi, ho, hP, hm => by
    by_cases hlt : i < nodes.length
    · obtain ⟨x, hx⟩ : ∃ x, nodes[i]? = some x := ⟨_, List.getElem?_eq_getElem hlt⟩
      have hPx := hP x (List.mem_of_getElem? hx)
      by_cases hb : 256 < (exN nodes (step x)).length ∨ 4096 < movesN (out ++ [exL nodes (step x)])
      · rw [exG_big hx hb] at h
        injection h with h
        cases h
      · rw [exG_step hx hb] at h
        have hge : nodes.length ≤ (exN nodes (step x)).length := exN_ge
        have ih := exG_W hPs f (i + 1) (exN nodes (step x)) (out ++ [exL nodes (step x)]) ss h (by omega) (by rw [List.length_append, ho]; rfl)
          (fun z hz => by
            rcases exN_mem hz with hz | ⟨a, ha, rfl⟩
            · exact hP z hz
            · exact (hPs x hPx a ha).1)
          (fun l hl m hml => by
            rcases List.mem_append.1 hl with hl | hl
            · obtain ⟨h1, h2, h3⟩ := hm l hl m hml
              exact ⟨h1, h2, by omega⟩
            · rw [List.mem_singleton.1 hl] at hml
              obtain ⟨h1, h2, h3, _⟩ := exL_to (fun a ha => (hPs x hPx a ha).2) hml
              exact ⟨h1, h3, h2⟩)
        exact ⟨ih.1, by omega⟩
    · rw [exG_end hlt] at h
      injection h with h
      injection h with h
      subst h
      refine ⟨fun l hl m hml => ?_, by omega⟩
      obtain ⟨h1, h2, h3⟩ := hm l hl m hml
      refine ⟨h1, h2, ?_⟩
      rw [mvTo] at h3
      omega
/-- The pairs of two well-formed adversaries make states whose moves lead to states. -/
theorem prA_W {bt : Bool} {az bz ss : List (List (List Int))} (wA : AdOK az) (wB : AdOK bz) (h : prA bt az bz = some ss) : (∀ l ∈ ss, ∀ m ∈ l, m.length = 8 ∧ 0 ≤ m.getD 7 0 ∧ m.getD 7 0 < (ss.length : Int)) ∧ 1 ≤ ss.length := by
  have he := prA_eq bt az bz
  rw [h] at he
  exact exG_W (P := PrP az bz) (fun x hx => (prSt_ok wA wB hx).1) 300 0 [nd0] [] ss he (by simp) rfl (fun x hx => by rw [List.mem_singleton.1 hx]; exact PrP.first wA wB) (fun l hl => by cases hl)
theorem prA_AdW {bt : Bool} {az bz ss : List (List (List Int))} (wA : AdOK az) (wB : AdOK bz) (h : prA bt az bz = some ss) (hl : ss.length ≤ 1000) (hm : ∀ s ∈ ss, s.length ≤ 4096) : AdW ss := by
  obtain ⟨h1, h2⟩ := prA_W wA wB h
  exact ⟨h2, hl, fun s hs => ⟨hm s hs, h1 s hs⟩⟩
theorem exG_lim {step : Nd → List (List Int × Nd)} : ∀ (f i : Nat) (nodes : List Nd) (out ss : List (List (List Int))), exG step f i nodes out = some (some ss) → i ≤ nodes.length → out.length = i → nodes.length ≤ 256 → movesN out ≤ 4096 → ss.length ≤ 256 ∧ movesN ss ≤ 4096
  | 0, _, _, _, _, h, _, _, _, _ => by simp [exG] at h
  | f + 1, i, nodes, out, ss, h, hi, ho, hn, hm => by
    by_cases hlt : i < nodes.length
    · obtain ⟨x, hx⟩ : ∃ x, nodes[i]? = some x := ⟨_, List.getElem?_eq_getElem hlt⟩
      by_cases hb : 256 < (exN nodes (step x)).length ∨ 4096 < movesN (out ++ [exL nodes (step x)])
      · rw [exG_big hx hb] at h
        injection h with h
        cases h
      · rw [exG_step hx hb] at h
        have hge : nodes.length ≤ (exN nodes (step x)).length := exN_ge
        exact exG_lim f (i + 1) (exN nodes (step x)) (out ++ [exL nodes (step x)]) ss h (by omega) (by rw [List.length_append, ho]; rfl) (by omega) (by omega)
    · rw [exG_end hlt] at h
      injection h with h
      injection h with h
      subst h
      exact ⟨by omega, hm⟩
theorem prA_lim {bt : Bool} {az bz ss : List (List (List Int))} (h : prA bt az bz = some ss) : ss.length ≤ 256 ∧ movesN ss ≤ 4096 := by
  have he := prA_eq bt az bz
  rw [h] at he
  exact exG_lim 300 0 [nd0] [] ss he (by simp) rfl (by simp) (by simp [movesN])
theorem prA_Ad {bt : Bool} {az bz ss : List (List (List Int))} (wA : AdOK az) (wB : AdOK bz) (h : prA bt az bz = some ss) : AdW ss := by
  obtain ⟨h1, h2⟩ := prA_lim h
  exact prA_AdW wA wB h (by omega) (fun s hs => Nat.le_trans (mem_movesN hs) h2)
end Go.Proofs.YtiiiegflobihjaaGreat

/- The second exploration of And never passes the limits (plain). -/
namespace Go.Proofs.YtiiiegflobihjaaGreat

/-- The nodes of the second exploration. -/
def PL (ss : List (List (List Int))) (x : Nd) : Prop := x.2 = (0, []) ∧ 0 ≤ x.1 ∧ x.1.toNat < ss.length
theorem lvSt_ok {ss : List (List (List Int))} (wS : AdW ss) (live : List Bool) {x : Nd} (hx : PL ss x) : (∀ a ∈ lvSt ss live x, PL ss a.2 ∧ a.1.length = 7) ∧ (lvSt ss live x).length ≤ (ss.getD x.1.toNat []).length := by
  refine ⟨fun a ha => ?_, List.length_filterMap_le _ _⟩
  obtain ⟨m, hm, hf⟩ := List.mem_filterMap.1 ha
  rw [getD_eq hx.2.2] at hm
  obtain ⟨h8, h0, h1⟩ := (wS.st _ (List.getElem_mem hx.2.2)).2 m hm
  unfold lvF at hf
  split at hf
  · injection hf with hf
    subst hf
    refine ⟨⟨rfl, by simp, ?_⟩, by rw [rdOf, List.length_take]; omega⟩
    simp only [mvTo]; omega
  · cases hf
theorem PL.sm {ss : List (List (List Int))} (wS : AdW ss) {x : Nd} (h : PL ss x) : SmN x := by
  have := wS.len
  obtain ⟨x0, x1, x2⟩ := x
  obtain ⟨h0, h1, h2⟩ := h
  simp only [Prod.mk.injEq] at h0
  obtain ⟨rfl, rfl⟩ := h0
  simp only at h1 h2
  exact ⟨by simp only; omega, by simp only; omega, by simp, by simp⟩
def SS (f : Nat → Nat) : Nat → Nat
  | 0 => 0
  | n + 1 => SS f n + f n
theorem sum_nodup (f : Nat → Nat) : ∀ (n : Nat) (ks : List Nat), ks.Nodup → (∀ k ∈ ks, k < n) → (ks.map f).sum ≤ SS f n
  | 0, ks, _, h => by
    cases ks with
    | nil => simp
    | cons a r => exact absurd (h a (by simp)) (by omega)
  | n + 1, ks, hn, h => by
    by_cases hm : n ∈ ks
    · have hp := List.perm_cons_erase hm
      have h1 : (ks.map f).sum = f n + ((ks.erase n).map f).sum := by
        have := (hp.map f).sum_nat
        simpa using this
      have h2 := sum_nodup f n (ks.erase n) (hn.erase n) fun k hk => by
        have hk1 := h k (List.mem_of_mem_erase hk)
        have : k ≠ n := fun e => by
          subst e
          exact (List.Nodup.not_mem_erase hn) hk
        omega
      rw [SS, h1]; omega
    · have h2 := sum_nodup f n ks hn fun k hk => by
        have hk1 := h k hk
        have : k ≠ n := fun e => hm (e ▸ hk)
        omega
      rw [SS]; omega
theorem SS_movesN : ∀ (ss : List (List (List Int))), SS (fun k => (ss.getD k []).length) ss.length = movesN ss := by
  intro ss
  have h : ∀ n ≤ ss.length, SS (fun k => (ss.getD k []).length) n = movesN (ss.take n) := by
    intro n
    induction n with
    | zero => intro _; simp [SS, movesN]
    | succ n ih =>
      intro hn
      rw [SS, ih (by omega), List.take_succ_eq_append_getElem (by omega)]
      simp only [movesN, List.map_append, List.foldr_append, List.map_cons, List.map_nil, List.foldr_cons, List.foldr_nil, Nat.add_zero]
      have hg : ss.getD n [] = ss[n] := by simp [List.getElem?_eq_getElem (show n < ss.length by omega)]
      rw [hg]
      generalize ss.take n = l
      induction l with
      | nil => simp
      | cons a l ih => simp only [List.map_cons, List.foldr_cons]; omega
  rw [h _ (Nat.le_refl _), List.take_length]
theorem nodup_len : ∀ (n : Nat) (ks : List Nat), ks.Nodup → (∀ k ∈ ks, k < n) → ks.length ≤ n := fun n ks h1 h2 => by
  have h := sum_nodup (fun _ => 1) n ks h1 h2
  have e : ∀ n, SS (fun _ => 1) n = n := fun n => by induction n with | zero => rfl | succ n ih => rw [SS, ih]
  have e2 : (ks.map fun _ => 1).sum = ks.length := by
    clear h h1 h2
    induction ks with
    | nil => rfl
    | cons a l ih => simp [ih]; omega
  rw [e] at h
  omega
theorem PL.inj {ss : List (List (List Int))} {x y : Nd} (hx : PL ss x) (hy : PL ss y) (h : x.1.toNat = y.1.toNat) : x = y := by
  obtain ⟨h0, h1, _⟩ := hx
  obtain ⟨k0, k1, _⟩ := hy
  exact Prod.ext (by omega) (by rw [h0, k0])
theorem PL.keys {ss : List (List (List Int))} {l : List Nd} (hn : l.Nodup) (h : ∀ x ∈ l, PL ss x) : (l.map fun x => x.1.toNat).Nodup ∧ ∀ k ∈ l.map fun x => x.1.toNat, k < ss.length := by
  refine ⟨?_, fun k hk => ?_⟩
  · rw [List.Nodup, List.pairwise_map]
    refine List.Pairwise.imp_of_mem (fun {a b} ha hb hab e => hab ((h a ha).inj (h b hb) e)) hn
  · obtain ⟨x, hx, rfl⟩ := List.mem_map.1 hk
    exact (h x hx).2.2
theorem exG_lv {ss : List (List (List Int))} (wS : AdW ss) (h256 : ss.length ≤ 256) (h4096 : movesN ss ≤ 4096) (live : List Bool) : ∀ (f i : Nat) (nodes : List Nd) (out : List (List (List Int))), 257 ≤ f + i → 0 < f → i ≤ nodes.length → nodes.Nodup → (∀ x ∈ nodes, PL ss x) →
    movesN out ≤ (((nodes.take i).map fun x => x.1.toNat).map fun k => (ss.getD k []).length).sum → ∃ S, exG (lvSt ss live) f i nodes out = some (some S)
  | 0, _, _, _, _, h, _, _, _, _ => absurd h (by omega)
  | f + 1, i, nodes, out, hf, _, hi, hn, hP, hm => by
    by_cases hlt : i < nodes.length
    · have hx := List.getElem?_eq_getElem hlt
      have hPx := hP _ (List.getElem_mem hlt)
      obtain ⟨hok, hlen⟩ := lvSt_ok wS live hPx
      have hn' : (exN nodes (lvSt ss live nodes[i])).Nodup := exN_nodup hn
      have hP' : ∀ x ∈ exN nodes (lvSt ss live nodes[i]), PL ss x := fun y hy => by
        rcases exN_mem hy with hy | ⟨a, ha, rfl⟩
        · exact hP y hy
        · exact (hok a ha).1
      obtain ⟨k1, k2⟩ := PL.keys hn' hP'
      have hl := nodup_len _ _ k1 k2
      rw [List.length_map] at hl
      obtain ⟨t, ht⟩ := dd_pre ((lvSt ss live nodes[i]).map Prod.snd) nodes
      have ht : exN nodes (lvSt ss live nodes[i]) = nodes ++ t := ht
      have htk : (exN nodes (lvSt ss live nodes[i])).take (i + 1) = nodes.take i ++ [nodes[i]] := by
        rw [ht, List.take_append_of_le_length (by omega), List.take_succ_eq_append_getElem hlt]
      have hm' : movesN (out ++ [exL nodes (lvSt ss live nodes[i])]) ≤ ((((exN nodes (lvSt ss live nodes[i])).take (i + 1)).map fun x => x.1.toNat).map fun k => (ss.getD k []).length).sum := by
        rw [movesN_snoc, exL_length, htk]
        simp only [List.map_append, List.sum_append, List.map_cons, List.map_nil, List.sum_cons, List.sum_nil]
        omega
      have hs : ((((exN nodes (lvSt ss live nodes[i])).take (i + 1)).map fun x => x.1.toNat).map fun k => (ss.getD k []).length).sum ≤ movesN ss := by
        obtain ⟨q1, q2⟩ := PL.keys (l := (exN nodes (lvSt ss live nodes[i])).take (i + 1)) (hn'.sublist (List.take_sublist _ _)) fun x hx => hP' x (List.mem_of_mem_take hx)
        have := sum_nodup (fun k => (ss.getD k []).length) _ _ q1 q2
        rw [SS_movesN] at this
        exact this
      rw [exG_step hx (by omega)]
      have hge : nodes.length ≤ (exN nodes (lvSt ss live nodes[i])).length := exN_ge
      exact exG_lv wS h256 h4096 live f (i + 1) _ _ (by omega) (by omega) (by omega) hn' hP' hm'
    · exact ⟨_, exG_end hlt⟩
theorem PL.first {ss : List (List (List Int))} (wS : AdW ss) : PL ss nd0 := ⟨rfl, by simp [nd0], by have := wS.pos; simp [nd0]; omega⟩
theorem lv_some {ss : List (List (List Int))} (wS : AdW ss) (h256 : ss.length ≤ 256) (h4096 : movesN ss ≤ 4096) (live : List Bool) : ∃ S, exG (lvSt ss live) 300 0 [nd0] [] = some (some S) :=
  exG_lv wS h256 h4096 live 300 0 [nd0] [] (by omega) (by omega) (by simp) (by simp) (fun x hx => by rw [List.mem_singleton.1 hx]; exact PL.first wS) (by simp [movesN])
end Go.Proofs.YtiiiegflobihjaaGreat

/- The moves of pairs of states, for combine.And$1. -/
namespace Go.Proofs.YtiiiegflobihjaaGreat
open Go.RowKit

set_option maxRecDepth 100000 in
theorem keepAnd (s t : Int) (w : World) : Calls Tryz.prog 35 #[.int .i64 s, .int .i64 t] w fun e w' => e = .returned (.bool (kpB true s t)) ∧ w' = w := by
  by_cases h1 : 0 ≤ s
  · by_cases h2 : 0 ≤ t
    · have h : kpB true s t = true := by simp [kpB, h1, h2]
      rw [h]
      have hd1 : decide (0 ≤ s) = true := decide_eq_true h1
      have hd2 : decide (0 ≤ t) = true := decide_eq_true h2
      go_enter Tryz.func35, Tryz.ntmps35
      go_wp2
      go_ret
      exact ⟨rfl, rfl⟩
    · have h : kpB true s t = false := by simp [kpB, h1]; omega
      rw [h]
      have hd1 : decide (0 ≤ s) = true := decide_eq_true h1
      have hd2 : decide (0 ≤ t) = false := decide_eq_false h2
      go_enter Tryz.func35, Tryz.ntmps35
      go_wp2
      go_ret
      exact ⟨rfl, rfl⟩
  · have h : kpB true s t = false := by simp [kpB]; omega
    rw [h]
    have hd1 : decide (0 ≤ s) = false := decide_eq_false h1
    go_enter Tryz.func35, Tryz.ntmps35
    go_wp2
    go_ret
    exact ⟨rfl, rfl⟩

set_option maxRecDepth 100000 in
set_option maxHeartbeats 6400000 in
theorem pairedMvAnd {w : World} {bF bA bB bK : Nat} {n n' : Int} {aa ba : Option Addr} {ac bc : Nat} {az bz : List (List (List Int))}
    (kF : w.heap[bF]? = some (.cells #[.func (.func 63) #[] #[]] 104)) (kK : w.heap[bK]? = some (.cells #[.func (.func 35) #[] #[]] 67))
    (kA : w.heap[bA]? = some (.cells #[.int .i64 n, .slice aa az.length ac] 24)) (kB : w.heap[bB]? = some (.cells #[.int .i64 n', .slice ba bz.length bc] 24))
    (hA : AdvV w (.agg #[.int .i64 n, .slice aa az.length ac]) n az) (hB : AdvV w (.agg #[.int .i64 n', .slice ba bz.length bc]) n' bz) (wA : AdOK az) (wB : AdOK bz) {x : Nd} (hx : PrP az bz x) :
    Calls Tryz.prog 64 #[ndV x, .pointer (some ⟨bF, 0, none⟩), .pointer (some ⟨bA, 0, none⟩), .pointer (some ⟨bB, 0, none⟩), .pointer (some ⟨bK, 0, none⟩)] w (ArOut w (prSt true az bz x)) := by
  have hx7 := prRs_len wA wB hx
  have hrs0 := prRs_pos wA wB hx
  obtain ⟨hxa, hxb, hx0, hx2⟩ := hx
  obtain ⟨x0, x1, x2⟩ := x
  simp only at hxa hxb hx0 hx2
  subst hx2
  obtain ⟨W2, hW2⟩ : ∃ W2, W2 = w.alloc (.cells #[.int .i64 x0, .int .i64 x1, .string (bsN [])] 62) := ⟨_, rfl⟩
  have hb2 : Below w.heap.size w W2 := by rw [hW2]; exact (Below.refl _ w).alloc (Nat.le_refl _) _
  have kX : W2.heap[w.heap.size]? = some (.cells #[.int .i64 x0, .int .i64 x1, .string (bsN [])] 62) := by rw [hW2]; exact heap_alloc_new _ _
  have cF := cell_kept hb2 (box_cell (j := 0) kF rfl)
  have cK := cell_kept hb2 (box_cell (j := 0) kK rfl)
  have cA0 := cell_kept hb2 (box_cell (j := 0) kA rfl)
  have cA1 := cell_kept hb2 (box_cell (j := 1) kA rfl)
  have cB0 := cell_kept hb2 (box_cell (j := 0) kB rfl)
  have cB1 := cell_kept hb2 (box_cell (j := 1) kB rfl)
  have cX0 := box_cell (j := 0) kX rfl
  have cX1 := box_cell (j := 1) kX rfl
  obtain ⟨uA, hKA, HA⟩ := ofCall (hA.keep hb2) (fun s hs => (wA.st s hs).1) hxa
  obtain ⟨uB, hKB, HB⟩ := ofCall (hB.keep hb2) (fun s hs => (wB.st s hs).1) hxb
  have zA : (ndM az x0).length = 0 → uA = .slice none 0 0 := HA.2
  have zB : (ndM bz x1).length = 0 → uB = .slice none 0 0 := HB.2
  have HA := Lib.hid HA.1
  have HB := Lib.hid HB.1
  obtain ⟨ua, uc, huA⟩ := hKA.shape
  obtain ⟨va, vc, huB⟩ := hKB.shape
  subst huA huB
  have hlA := ndM_len wA x0
  have hlB := ndM_len wB x1
  have hlen : 0 < (ndM az x0).length + (ndM bz x1).length := by
    have := ndM_pos wA hxa
    have := ndM_pos wB hxb
    omega
  have hTA := Lib.hid (fun W (hb : Below W2.heap.size W2 W) r0 r1 r2 r3 r4 r5 r6 => targetA ((hA.keep hb2).keep hb) wA.asc wA.big hxa r0 r1 r2 r3 r4 r5 r6)
  have hTB := Lib.hid (fun W (hb : Below W2.heap.size W2 W) r0 r1 r2 r3 r4 r5 r6 => targetA ((hB.keep hb2).keep hb) wB.asc wB.big hxb r0 r1 r2 r3 r4 r5 r6)
  have hHS := Lib.hid (fun W (hb : Below W2.heap.size W2 W) => And.intro (cell_kept hb cF) (And.intro (cell_kept hb cK) (And.intro (cell_kept hb cA0) (And.intro (cell_kept hb cA1) (And.intro (cell_kept hb cB0) (And.intro (cell_kept hb cB1) (And.intro (cell_kept hb cX0) (cell_kept hb cX1))))))))
  have hCc := Lib.hid (fun W b (c0 : W.cell? ⟨b, 0, none⟩ = some (.slice ua (ndM az x0).length uc)) (c1 : W.cell? ⟨b, 1, none⟩ = some (.slice va (ndM bz x1).length vc)) (hb : Below W2.heap.size W2 W) => concatMvE c0 c1 (hKA.keep hb) (hKB.keep hb) zA zB hlen (by omega) (by omega))
  obtain ⟨X, hX⟩ : ∃ X, ndM az x0 = X := ⟨_, rfl⟩
  obtain ⟨Y, hY⟩ : ∃ Y, ndM bz x1 = Y := ⟨_, rfl⟩
  have hRS : prRs az bz (x0, x1, []) = lets ((X ++ Y).map rdOf) := by rw [← hX, ← hY]; rfl
  have hst : prSt true az bz (x0, x1, []) = (lets ((X ++ Y).map rdOf)).filterMap (prF true az bz (x0, x1, [])) := by rw [← hRS]; rfl
  rw [hRS] at hx7 hrs0
  rw [hst]
  rw [hX] at hKA HA hlA hlen
  rw [hY] at hKB HB hlB hlen
  simp only [hX, hY] at hCc
  obtain ⟨N, hN⟩ : ∃ N, X.length + Y.length = N := ⟨_, rfl⟩
  have hN0 : 0 < N := by omega
  have hNl : N ≤ 800 := by omega
  have hNi : (X ++ Y).length = N := by rw [List.length_append]; exact hN
  simp only [hN] at hCc
  obtain ⟨Z, hZ⟩ : ∃ Z, X ++ Y = Z := ⟨_, rfl⟩
  rw [hZ] at hx7 hrs0 hNi ⊢
  simp only [hZ] at hCc
  have hCr := Lib.hid (fun W B v (hv : OwX 58 8 EI W B v N Z) => roundsSame (u := v) (w := W) (hv.ks (by omega)) (by omega) (by omega))
  obtain ⟨RS, hRS2⟩ : ∃ RS, lets (Z.map rdOf) = RS := ⟨_, rfl⟩
  simp only [hRS2] at hx7 hrs0 hCr ⊢
  replace hN := Lib.hid hN
  replace hNi := Lib.hid hNi
  replace hZ := Lib.hid hZ
  replace hX := Lib.hid hX
  replace hY := Lib.hid hY
  replace hRS := Lib.hid hRS
  replace hst := Lib.hid hst
  replace hRS2 := Lib.hid hRS2
  replace hx7 := Lib.hid hx7
  clear zA zB kX kF kK kA kB hA hB hKA hKB
  obtain ⟨eb, heb⟩ : ∃ eb, bsN [] = eb := ⟨_, rfl⟩
  simp only [ndV, heb] at hW2 ⊢
  obtain ⟨d1, d2, d3, d4, d5, d6, d7, d8⟩ := hHS.out W2 (Below.refl _ _)
  clear cF cK cA0 cA1 cB0 cB1 cX0 cX1
  go_enter Tryz.func64, Tryz.ntmps64
  go_wp2_with fail
  rw [← hW2]
  replace hW2 := Lib.hid hW2
  have HA1 := Lib.hid (HA.out W2.drew ((Below.refl _ _).drew))
  go_upto_region 2 with fail
  go_cut [23, 24, 25] (fun rv nv jv wx => ∃ ra rc, rv = .slice ra RS.length rc ∧ nv = .int .i64 (RS.length : Nat) ∧ jv = .int .i64 0 ∧ OwX 51 7 EI wx W2.heap.size (.slice ra RS.length rc) RS.length RS ∧ Below W2.heap.size W2 wx)
  case first =>
    go_region_held3 (fun w' => w'.cell? ⟨bF, 0, none⟩ = some (.func (.func 63) #[] #[]) ∧ w'.cell? ⟨bA, 0, none⟩ = some (.int .i64 n) ∧ w'.cell? ⟨bA, 1, none⟩ = some (.slice aa az.length ac) ∧ w'.cell? ⟨bB, 0, none⟩ = some (.int .i64 n') ∧ w'.cell? ⟨bB, 1, none⟩ = some (.slice ba bz.length bc) ∧ w'.cell? ⟨w.heap.size, 0, none⟩ = some (.int .i64 x0) ∧ w'.cell? ⟨w.heap.size, 1, none⟩ = some (.int .i64 x1))
      (first
        | go_keep
        | (exact let h := hHS.out _ hR8; ⟨h.1, h.2.2.1, h.2.2.2.1, h.2.2.2.2.1, h.2.2.2.2.2.1, h.2.2.2.2.2.2.1, h.2.2.2.2.2.2.2⟩)
        | (exact let h := hHS.out _ hR7; ⟨h.1, h.2.2.1, h.2.2.2.1, h.2.2.2.2.1, h.2.2.2.2.2.1, h.2.2.2.2.2.2.1, h.2.2.2.2.2.2.2⟩)
        | (exact let h := hHS.out _ (hR6.alloc hR6.size _); ⟨h.1, h.2.2.1, h.2.2.2.1, h.2.2.2.2.1, h.2.2.2.2.2.1, h.2.2.2.2.2.2.1, h.2.2.2.2.2.2.2⟩)
        | (exact let h := hHS.out _ hR6; ⟨h.1, h.2.2.1, h.2.2.2.1, h.2.2.2.2.1, h.2.2.2.2.2.1, h.2.2.2.2.2.2.1, h.2.2.2.2.2.2.2⟩)
        | (exact let h := hHS.out _ hR5; ⟨h.1, h.2.2.1, h.2.2.2.1, h.2.2.2.2.1, h.2.2.2.2.2.1, h.2.2.2.2.2.2.1, h.2.2.2.2.2.2.2⟩))
      (first
        | (go_at_call 63; (with_reducible refine HA1.out.mono ?_); rintro e w5 ⟨rfl, hb5⟩; have hR5 : Below W2.heap.size W2 w5 := below_of_drew hb5; have HB1 := Lib.hid (HB.out w5 hR5))
        | (go_at_call 63; (with_reducible refine HB1.out.mono ?_); rintro e w6 ⟨rfl, hb6⟩; have hR6 : Below W2.heap.size W2 w6 := bt hR5 hb6 hR5.size; have HC1 := Lib.hid (hCc.out (w6.alloc (.cells #[.slice ua X.length uc, .slice va Y.length vc] 59)) w6.heap.size (by rw [cell_of_row _ _ 0 _ _ _ (heap_alloc_new _ _)]; rfl) (by rw [cell_of_row _ _ 1 _ _ _ (heap_alloc_new _ _)]; rfl) (hR6.alloc hR6.size _)))
        | (go_at_call 66; (with_reducible refine HC1.out.mono ?_); rintro e w7 ⟨u7, rfl, ho7, hb7⟩; obtain ⟨a7, c7, rfl⟩ := ho7.shape; have hR7 : Below W2.heap.size W2 w7 := bt (hR6.alloc hR6.size _) hb7 (hR6.alloc hR6.size _).size; have HR1 := Lib.hid (hCr.out w7 _ _ ho7))
        | (go_at_call 65; (with_reducible refine HR1.out.mono ?_); rintro e w8 ⟨u8, rfl, ho8, hb8⟩; obtain ⟨a8, c8, rfl⟩ := ho8.shape; have hR8 : Below W2.heap.size W2 w8 := bt hR7 hb8 hR7.size; have ho8b := ho8.base hR7.size))
    all_goals
      go_wp2
      go_meet
      exact ⟨a8, c8, rfl, rfl, rfl, ho8b, hR8⟩
  case rest =>
    obtain ⟨ra, rc, rfl, rfl, rfl, hRo, hbx⟩ := hcut
    obtain ⟨wp, hwp⟩ : ∃ wp, wp = wc := ⟨_, rfl⟩
    subst hwp
    obtain ⟨gr, cr, hre, _⟩ := hRo.form hrs0
    obtain ⟨rfl, rfl⟩ : ra = some ⟨gr, 0, none⟩ ∧ cr = rc := by injection hre with h1 h2 h3; exact ⟨h1, h3.symm⟩
    have hRc := Lib.hid (fun W (hb : Below wp.heap.size wp W) j (hj : j < RS.length) => And.intro (hRo.intCells hj).1 ((hRo.intCells hj).2.keep hb))
    have hO0 : OwX 75 10 EAr wp wp.heap.size (.slice none 0 0) ((RS.take 0).filterMap (prF true az bz (x0, x1, []))).length ((RS.take 0).filterMap (prF true az bz (x0, x1, []))) := OwX.nil _ _
    clear hre hRo
    go_wp2_with fail
    go_loopw [7, 25] (fun ov jv wr => ∃ j : Nat, jv = .int .i64 j ∧ j ≤ RS.length ∧ OwX 75 10 EAr wr wp.heap.size ov ((RS.take j).filterMap (prF true az bz (x0, x1, []))).length ((RS.take j).filterMap (prF true az bz (x0, x1, []))) ∧ Below wp.heap.size wp wr) (fun _ jv _ => RS.length - (intOf jv).toNat)
    case atStart => exact ⟨0, rfl, by omega, hO0, Below.refl _ _⟩
    case round =>
      clear hO0
      obtain ⟨j, rfl, hj, hO, hbr⟩ := hrel
      obtain ⟨oa, oc, hov⟩ := hO.shape
      subst hov
      by_cases hlt : j < RS.length
      · have hji : (j : Int) < (RS.length : Int) := by omega
        have hRS8 := hx7.out.1
        obtain ⟨hm7, hmc⟩ := hRc.out wr hbr j hlt
        have hsn := take_snoc hlt ([] : List Int)
        obtain ⟨r, hr⟩ : ∃ r, RS.getD j [] = r := ⟨_, rfl⟩
        rw [hr] at hm7 hmc hsn
        obtain ⟨r0, r1, r2, r3, r4, r5, r6, rfl⟩ := seven hm7
        obtain ⟨c0, c1, c2, c3, c4, c5, c6⟩ := hmc.all7
        obtain ⟨L, hL⟩ : ∃ L, (RS.take j).filterMap (prF true az bz (x0, x1, [])) = L := ⟨_, rfl⟩
        have hLl : L.length ≤ 800 := by
          rw [← hL]
          refine Nat.le_trans (List.length_filterMap_le _ _) ?_
          rw [List.length_take]
          have := hx7.out.1; omega
        have hstp : (RS.take (j + 1)).filterMap (prF true az bz (x0, x1, [])) = L ++ (prF true az bz (x0, x1, []) [r0, r1, r2, r3, r4, r5, r6]).toList := by
          rw [hsn, List.filterMap_append, hL]
          cases h : prF true az bz (x0, x1, []) [r0, r1, r2, r3, r4, r5, r6] <;> simp [h]
        rw [hL] at hO ⊢
        obtain ⟨Wb, hWb⟩ : ∃ Wb, Wb = wr.alloc (.cells #[.int .i64 r0, .int .i64 r1, .int .i64 r2, .int .i64 r3, .int .i64 r4, .int .i64 r5, .int .i64 r6] 51) := ⟨_, rfl⟩
        have hbb : Below wr.heap.size wr Wb := by rw [hWb]; exact (Below.refl _ _).alloc (Nat.le_refl _) _
        have kW : Wb.heap[wr.heap.size]? = some (.cells #[.int .i64 r0, .int .i64 r1, .int .i64 r2, .int .i64 r3, .int .i64 r4, .int .i64 r5, .int .i64 r6] 51) := by rw [hWb]; exact heap_alloc_new _ _
        have hbrb := bt hbr hbb hbr.size
        have hb2b : Below W2.heap.size W2 Wb := bt hbx hbrb hbx.size
        have hOb := hO.keep (EAr.stab _) hbb
        have hrw := box7CI kW
        obtain ⟨y0, hy0⟩ : ∃ y0, ndT az x0 [r0, r1, r2, r3, r4, r5, r6] = y0 := ⟨_, rfl⟩
        obtain ⟨y1, hy1⟩ : ∃ y1, ndT bz x1 [r0, r1, r2, r3, r4, r5, r6] = y1 := ⟨_, rfl⟩
        have hpF : prF true az bz (x0, x1, []) [r0, r1, r2, r3, r4, r5, r6] = if kpB true y0 y1 then some ([r0, r1, r2, r3, r4, r5, r6], (y0, y1, [])) else none := by rw [← hy0, ← hy1]; rfl
        rw [hpF] at hstp
        have HT1 := Lib.hid (fun W (hb : Below Wb.heap.size Wb W) => hTA.out W (bt hb2b hb hb2b.size) r0 r1 r2 r3 r4 r5 r6)
        have HT2 := Lib.hid (fun W (hb : Below Wb.heap.size Wb W) => hTB.out W (bt hb2b hb hb2b.size) r0 r1 r2 r3 r4 r5 r6)
        rw [hy0] at HT1
        rw [hy1] at HT2
        have hS := Lib.hid (fun W (hb : Below Wb.heap.size Wb W) => let h := hHS.out W (bt hb2b hb hb2b.size); And.intro h.2.2.1 (And.intro h.2.2.2.1 (And.intro h.2.2.2.2.1 (And.intro h.2.2.2.2.2.1 (And.intro h.2.2.2.2.2.2.1 (And.intro h.2.2.2.2.2.2.2 (hrw.keep hb).all7))))))
        replace hstp := Lib.hid hstp
        replace hr := Lib.hid hr
        replace hsn := Lib.hid hsn
        replace hL := Lib.hid hL
        replace hy0 := Lib.hid hy0
        replace hy1 := Lib.hid hy1
        replace hpF := Lib.hid hpF
        obtain ⟨e1, e2, e3, e4, e5, e6, f0, f1, f2, f3, f4, f5, f6⟩ := hS.out Wb (Below.refl _ _)
        simp only [Nat.zero_add] at f0 f1 f2 f3 f4 f5 f6
        have HT1a := Lib.hid (HT1.out Wb.drew ((Below.refl _ _).drew))
        have HT1b := Lib.hid (HT1.out (Wb.alloc (.cells #[.int .i64 0, .int .i64 0, .string ⟨#[]⟩] 62)).drew (((Below.refl _ _).alloc (Nat.le_refl _) _).drew))
        clear hmc hm7 hO kW hrw
        go_wp2_with fail
        rw [← hWb]
        replace hWb := Lib.hid hWb
        go_upto_region 5 with fail
        go_cut [10] (fun pv wx => ∃ b, pv = .pointer (some ⟨b, 0, none⟩) ∧ wx.heap[b]? = some (.cells #[.int .i64 y0, .int .i64 y1, .string ⟨#[]⟩] 62) ∧ Below Wb.heap.size Wb wx ∧ Wb.heap.size ≤ b)
        case first =>
          go_region_held3 (fun w' => w'.cell? ⟨bA, 0, none⟩ = some (.int .i64 n) ∧ w'.cell? ⟨bA, 1, none⟩ = some (.slice aa az.length ac) ∧ w'.cell? ⟨bB, 0, none⟩ = some (.int .i64 n') ∧ w'.cell? ⟨bB, 1, none⟩ = some (.slice ba bz.length bc) ∧ w'.cell? ⟨w.heap.size, 0, none⟩ = some (.int .i64 x0) ∧ w'.cell? ⟨w.heap.size, 1, none⟩ = some (.int .i64 x1) ∧
              w'.cell? ⟨wr.heap.size, 0, none⟩ = some (.int .i64 r0) ∧ w'.cell? ⟨wr.heap.size, 1, none⟩ = some (.int .i64 r1) ∧ w'.cell? ⟨wr.heap.size, 2, none⟩ = some (.int .i64 r2) ∧ w'.cell? ⟨wr.heap.size, 3, none⟩ = some (.int .i64 r3) ∧ w'.cell? ⟨wr.heap.size, 4, none⟩ = some (.int .i64 r4) ∧ w'.cell? ⟨wr.heap.size, 5, none⟩ = some (.int .i64 r5) ∧ w'.cell? ⟨wr.heap.size, 6, none⟩ = some (.int .i64 r6))
            (first
              | go_keep
              | (exact kep (hS.out _ hR6))
              | (exact kep (hS.out _ (hR6.alloc hR6.size _)))
              | (exact kep (hS.out _ (hR5.alloc hR5.size _)))
              | (exact kep (hS.out _ hR5))
              | (exact kep (hS.out _ ((Below.refl _ _).alloc (Nat.le_refl _) _).drew))
              | (exact kep (hS.out _ (Below.setCell (p := ⟨Wb.heap.size, 2, none⟩) (Below.setCell (p := ⟨Wb.heap.size, 1, none⟩) (Below.setCell (p := ⟨Wb.heap.size, 0, none⟩) hR6 (Nat.le_refl _) _) (Nat.le_refl _) _) (Nat.le_refl _) _)))
              | (exact kep (hS.out _ (Below.setCell (p := ⟨w5.heap.size, 2, none⟩) (Below.setCell (p := ⟨w5.heap.size, 1, none⟩) (Below.setCell (p := ⟨w5.heap.size, 0, none⟩) hR6 hR5.size _) hR5.size _) hR5.size _))))
            (first
              | (go_at_call 68; (with_reducible refine (HT1.out _ (by first | exact (Below.refl _ _).drew | exact ((Below.refl _ _).alloc (Nat.le_refl _) _).drew)).mono ?_); rintro e w5 ⟨rfl, hb5⟩; have hR5 : Below Wb.heap.size Wb w5 := (by first | exact below_of_drew hb5 | exact bt ((Below.refl _ Wb).alloc (Nat.le_refl _) _).drew hb5 ((Below.refl _ Wb).alloc (Nat.le_refl _) _).drew.size); (first | (have kN5 : w5.heap[Wb.heap.size]? = some (.cells #[.int .i64 0, .int .i64 0, .string ⟨#[]⟩] 62) := (hb5.block Wb.heap.size (by rw [World.size_drew, World.size_alloc]; omega)).trans (heap_alloc_new Wb _)) | skip))
              | (go_at_call 68; (with_reducible refine (HT2.out _ (by first | exact hR5 | exact hR5.alloc hR5.size _)).mono ?_); rintro e w6 ⟨rfl, hb6⟩; have hR6 : Below Wb.heap.size Wb w6 := (by first | exact bt hR5 hb6 hR5.size | exact bt (hR5.alloc hR5.size _) hb6 (hR5.alloc hR5.size _).size); (first | (have kN6 : w6.heap[Wb.heap.size]? = some (.cells #[.int .i64 0, .int .i64 0, .string ⟨#[]⟩] 62) := (hb6.block Wb.heap.size (Array.getElem?_eq_some_iff.1 kN5).1).trans kN5; have n60 := box_cell (j := 0) kN6 rfl; have n61 := box_cell (j := 1) kN6 rfl; have n62 := box_cell (j := 2) kN6 rfl; have nf0 := row_free kN6 0; have nf1 := row_free kN6 1; have nf2 := row_free kN6 2) | (have kN6 : w6.heap[w5.heap.size]? = some (.cells #[.int .i64 0, .int .i64 0, .string ⟨#[]⟩] 62) := (hb6.block w5.heap.size (by rw [World.size_alloc]; omega)).trans (heap_alloc_new w5 _); have n60 := box_cell (j := 0) kN6 rfl; have n61 := box_cell (j := 1) kN6 rfl; have n62 := box_cell (j := 2) kN6 rfl; have nf0 := row_free kN6 0; have nf1 := row_free kN6 1; have nf2 := row_free kN6 2) | skip)))
          all_goals
            go_wp2
            go_meet
            first
              | exact ⟨w6.heap.size, rfl, heap_alloc_new _ _, hR6.alloc hR6.size _, hR6.size⟩
              | exact ⟨w5.heap.size, rfl, boxSet3 kN6, Below.setCell (p := ⟨w5.heap.size, 2, none⟩) (Below.setCell (p := ⟨w5.heap.size, 1, none⟩) (Below.setCell (p := ⟨w5.heap.size, 0, none⟩) hR6 hR5.size _) hR5.size _) hR5.size _, hR5.size⟩
              | exact ⟨Wb.heap.size, rfl, boxSet3 kN6, Below.setCell (p := ⟨Wb.heap.size, 2, none⟩) (Below.setCell (p := ⟨Wb.heap.size, 1, none⟩) (Below.setCell (p := ⟨Wb.heap.size, 0, none⟩) hR6 (Nat.le_refl _) _) (Nat.le_refl _) _) (Nat.le_refl _) _, Nat.le_refl _⟩
        case rest =>
          obtain ⟨bn, rfl, kN, hbn, hbnl⟩ := hcut
          obtain ⟨_, _, _, _, _, _, g0, g1, g2, g3, g4, g5, g6⟩ := hS.out wc hbn
          simp only [Nat.zero_add] at g0 g1 g2 g3 g4 g5 g6
          have cK := (hHS.out wc (bt hb2b hbn hb2b.size)).2.1
          have n0 := box_cell (j := 0) kN rfl
          have n1 := box_cell (j := 1) kN rfl
          have n2 := box_cell (j := 2) kN rfl
          have hOn := hOb.keep (EAr.stab _) hbn
          have hbrn := bt hbrb hbn hbrb.size
          have HKp := keepAnd y0 y1 wc
          have hst2 := hstp.out
          clear hOb hbrb hbn kN e1 e2 e3 e4 e5 e6 f0 f1 f2 f3 f4 f5 f6 HT1a HT1b
          obtain ⟨kb, hkb⟩ : ∃ kb, kpB true y0 y1 = kb := ⟨_, rfl⟩
          rw [hkb] at HKp hst2
          replace HKp := Lib.hid HKp
          replace hkb := Lib.hid hkb
          cases kb
          · have hst3 : Hid ((RS.take (j + 1)).filterMap (prF true az bz (x0, x1, [])) = L) := by show _ = _; rw [hst2]; simp
            clear hst2
            go_wp2_with fail
            refine HKp.out.mono ?_
            rintro e w' ⟨rfl, rfl⟩
            go_wp2
            go_roundw
            case rel => exact ⟨j + 1, by go_num, hlt, by rw [hst3.out]; exact hOn, hbrn⟩
            case measure => simp [intOf]; omega
          · have hst3 : Hid ((RS.take (j + 1)).filterMap (prF true az bz (x0, x1, [])) = L ++ [([r0, r1, r2, r3, r4, r5, r6], (y0, y1, []))]) := by show _ = _; rw [hst2]; rfl
            have hL9 : L.length ≤ 1000000000000 := by omega
            have hB9 : wp.heap.size ≤ wc.heap.size := hbrn.size
            have hEA : EAr wc [.int .i64 r0, .int .i64 r1, .int .i64 r2, .int .i64 r3, .int .i64 r4, .int .i64 r5, .int .i64 r6, .int .i64 y0, .int .i64 y1, .string ⟨#[]⟩] ([r0, r1, r2, r3, r4, r5, r6], (y0, y1, [])) := ⟨rfl, rfl⟩
            have hc10 : ∀ u ∈ (#[.int .i64 r0, .int .i64 r1, .int .i64 r2, .int .i64 r3, .int .i64 r4, .int .i64 r5, .int .i64 r6, .int .i64 y0, .int .i64 y1, .string ⟨#[]⟩] : Array Value).toList, u.oneCell' = true := fun u hu => by
              simp only [List.mem_cons, List.not_mem_nil, or_false] at hu
              rcases hu with rfl | rfl | rfl | rfl | rfl | rfl | rfl | rfl | rfl | rfl <;> rfl
            replace hEA := Lib.hid hEA
            replace hc10 := Lib.hid hc10
            clear hst2
            go_wp2_with fail
            refine HKp.out.mono ?_
            rintro e w' ⟨rfl, rfl⟩
            go_wp2_with (at_builtin; refine wpAppX (x := ([r0, r1, r2, r3, r4, r5, r6], (y0, y1, []))) elemAr (by decide) (by decide) (EAr.stab _) rfl _ _ rfl rfl hOn rfl rfl rfl hc10.out hEA.out hL9 hB9 ?_)
            intro v3 w3 ho3 hg3 hb3 hx3
            have hbf := hbrn.trans hb3
            go_wp2
            go_roundw
            case rel => exact ⟨j + 1, by go_num, hlt, by rw [hst3.out, List.length_append]; exact ho3, hbf⟩
            case measure => simp [intOf]; omega
      · obtain rfl : j = RS.length := by omega
        have hge : ¬ ((RS.length : Int) < (RS.length : Int)) := by omega
        rw [List.take_length] at hO
        have hbf := bt hb2 (bt hbx hbr hbx.size) hb2.size
        have hfin := hO.base (B' := w.heap.size) (Nat.le_trans hb2.size hbx.size)
        replace hfin := Lib.hid hfin
        clear hO
        go_wp2
        go_ret
        exact ⟨_, rfl, hfin.out, hbf⟩
end Go.Proofs.YtiiiegflobihjaaGreat

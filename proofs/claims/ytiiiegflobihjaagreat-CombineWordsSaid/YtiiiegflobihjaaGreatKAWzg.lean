/- Texts of this claim, put together: GI GJ HB HC. -/
import Derived.Test.YtiiiegflobihjaaGreatKAWzf
import Derived.Test.YtiiiegflobihjaaGreatKAWzd
import Derived.Test.YtiiiegflobihjaaGreatKAWzc
import Derived.Test.YtiiiegflobihjaaGreatKAWze
import Derived.Test.YtiiiegflobihjaaGreatKAWl

/- The law CombineAbsorbs in plain lists: what is combined exists, is well-formed and permits the words of the other side. -/
namespace Go.Proofs.YtiiiegflobihjaaGreat

/-- Few and well-formed. -/
structure FwA (n : Int) (ss : List (List (List Int))) : Prop where
  chk : chkA n ss = 0
  ok : AdOK ss
  len : ss.length ≤ 8
  mv : movesN ss ≤ 40
theorem FwA.st {n : Int} {ss : List (List (List Int))} (h : FwA n ss) : ∀ s ∈ ss, s.length ≤ 40 := fun _ hs => Nat.le_trans (mem_movesN hs) h.mv
/-- A well-formed adversary that permits exactly these words. -/
structure Lg (n : Int) (ss : List (List (List Int))) (L : List (List Int) → Prop) : Prop where
  chk : chkA n ss = 0
  lead : LeadOK ss
  asc : ∀ s ∈ ss, AscL (s.map rdOf)
  words : ∀ w, alw ss w 0 ↔ L w
theorem AdOK.lead' {ss : List (List (List Int))} (h : AdOK ss) : LeadOK ss := h.w.lead
theorem or_lg {n : Int} {az bz : List (List (List Int))} (hA : FwA n az) (hB : FwA n bz) : ∃ S, prA false az bz = some S ∧ AdOK S ∧ S.length ≤ 81 ∧ Lg n S (fun w => alw az w 0 ∨ alw bz w 0) := by
  have q1 := hA.len
  have q2 := hB.len
  have q3 := hA.mv
  have q4 := hB.mv
  have k1 : (az.length + 1) * (bz.length + 1) ≤ 9 * 9 := Nat.mul_le_mul (by omega) (by omega)
  have k2 : (bz.length + 1) * movesN az ≤ 9 * 40 := Nat.mul_le_mul (by omega) q3
  have k3 : (az.length + 1) * movesN bz ≤ 9 * 40 := Nat.mul_le_mul (by omega) q4
  obtain ⟨S, hS⟩ := prA_some (bt := false) hA.ok hB.ok (by omega) (by omega)
  have hl := prA_len hA.ok hB.ok hS
  obtain ⟨c1, c2⟩ := or_chk hA.ok hB.ok hA.chk hB.chk (fun s hs => by have := hA.st s hs; omega) (fun s hs => by have := hB.st s hs; omega) hS
  exact ⟨S, hS, c2, by omega, c1, c2.lead', c2.asc, fun w => or_alw hA.ok hB.ok hS w⟩
/-- And of well-formed adversaries: an error, or one that permits the words of both that go on. -/
theorem and_lg {n : Int} {az bz S : List (List (List Int))} (wA : AdOK az) (wB : AdOK bz) (cA : chkA n az = 0) (cB : chkA n bz = 0) (hS : prA true az bz = some S) :
    ((lvA S).getD 0 false = true ↔ ∀ k : Nat, ∃ u : List (List Int), u.length = k ∧ alw az u 0 ∧ alw bz u 0) ∧
    ((lvA S).getD 0 false = true → ∃ T, lvR S = some T ∧ Lg n T (fun w => ∀ k : Nat, ∃ u : List (List Int), u.length = k ∧ alw az (w ++ u) 0 ∧ alw bz (w ++ u) 0)) := by
  have wS := prA_Ad wA wB hS
  obtain ⟨l1, l2⟩ := prA_lim hS
  obtain ⟨N, t, h1, h2, h3, h4, h5⟩ := prA_shape wA wB hS
  obtain ⟨hA, hM⟩ := h5.asc h3 (fun x hx a ha => ((prSt_ok wA wB (h4 x hx)).1 a ha).2) (fun x _ => prSt_asc true az bz x)
  have hE : ∀ w, Ext S w 0 ↔ ∀ k : Nat, ∃ u : List (List Int), u.length = k ∧ alw az (w ++ u) 0 ∧ alw bz (w ++ u) 0 := fun w => by
    refine forall_congr' fun k => exists_congr fun u => and_congr_right fun _ => ?_
    exact and_alw wA wB hS (w ++ u)
  refine ⟨⟨fun h => (hE []).1 (lv_ext hA hM h), fun h => lv_of_ext hM wS.pos ((hE []).2 h)⟩, fun h => ?_⟩
  obtain ⟨T, hT⟩ := lv_some wS l1 l2 (lvA S)
  have hT : lvR S = some T := by rw [lvR, hT]; rfl
  obtain ⟨c1, c2, c3, c4⟩ := and_chk wA wB cA cB hS h hT
  exact ⟨T, hT, c1, c3, c2, fun w => (c4 w).trans (hE w)⟩
theorem lvR_len {S T : List (List (List Int))} (wS : AdW S) (hT : lvR S = some T) : T.length ≤ S.length := by
  obtain ⟨M, t', g1, g2, g3, g4, g5⟩ := lvR_shape wS hT
  obtain ⟨m1, m2⟩ := PL.keys g2 g4
  have hl2 := nodup_len _ _ m1 m2
  rw [List.length_map] at hl2
  omega
/-- And with one that permits more. -/
theorem and_up {n : Int} {az R : List (List (List Int))} {p : Nat → Int} (hA : FwA n az) (wR : AdOK R) (cR : chkA n R = 0) (hl : R.length ≤ 100) (hp : Knows az R p) (hw : ∀ w, alw az w 0 → alw R w 0) :
    ∃ S T, prA true az R = some S ∧ (lvA S).getD 0 false = true ∧ lvR S = some T ∧ T.length ≤ R.length ∧ Lg n T (fun w => alw az w 0) := by
  obtain ⟨S, hS, hSl⟩ := andAbs hA.ok wR hp hA.st hl
  obtain ⟨h1, h2⟩ := and_lg hA.ok wR hA.chk cR hS
  have hL : (lvA S).getD 0 false = true := h1.2 fun k => by
    obtain ⟨u, hu, hu2⟩ := hA.ok.on [] 0 hA.ok.pos trivial k
    exact ⟨u, hu, hu2, hw _ hu2⟩
  obtain ⟨T, hT, c⟩ := h2 hL
  refine ⟨S, T, hS, hL, hT, Nat.le_trans (lvR_len (prA_Ad hA.ok wR hS) hT) hSl, c.chk, c.lead, c.asc, fun w => (c.words w).trans ⟨fun h => ?_, fun h k => ?_⟩⟩
  · obtain ⟨u, _, hu, _⟩ := h 0
    exact alw_preG hu
  · obtain ⟨u, hu, hu2⟩ := hA.ok.on w 0 hA.ok.pos h k
    exact ⟨u, hu, hu2, hw _ hu2⟩
/-- What And of two few adversaries makes is small. -/
theorem and_small {n : Int} {az bz S T : List (List (List Int))} (hA : FwA n az) (hB : FwA n bz) (hS : prA true az bz = some S) (hT : lvR S = some T) (cT : chkA n T = 0) : AdOK T ∧ T.length ≤ 81 ∧ (∀ s ∈ T, s.length ≤ 40) ∧ ∃ p, Knows az T p ∧ ∀ j, j < T.length → 0 ≤ p j := by
  have wS := prA_Ad hA.ok hB.ok hS
  obtain ⟨N, t, h1, h2, h3, h4, h5⟩ := prA_shape hA.ok hB.ok hS
  obtain ⟨hAs, hM⟩ := h5.asc h3 (fun x hx a ha => ((prSt_ok hA.ok hB.ok (h4 x hx)).1 a ha).2) (fun x _ => prSt_asc true az bz x)
  obtain ⟨p, hp, hp0⟩ := knowsPr hA.ok hB.ok hS
  obtain ⟨q, hq, hq0⟩ := knowsLv wS hAs hp (hp0 rfl) hT
  obtain ⟨M, t', g1, g2, g3, g4, g5⟩ := lvR_shape wS hT
  have q1 := hA.len
  have q2 := hB.len
  have k1 : (az.length + 1) * (bz.length + 1) ≤ 9 * 9 := Nat.mul_le_mul (by omega) (by omega)
  have hl := prA_len hA.ok hB.ok hS
  obtain ⟨m1, m2⟩ := PL.keys g2 g4
  have hl2 := nodup_len _ _ m1 m2
  rw [List.length_map] at hl2
  have hS40 : ∀ j, j < S.length → (S.getD j []).length ≤ 40 := fun j hj => by
    obtain ⟨x, e1, e2, _⟩ := h5 j (by omega)
    rw [List.getD_eq_getElem?_getD, e2]
    show (List.map _ _).length ≤ 40
    rw [List.length_map]
    refine prSt_lenA hA.st (h4 x (List.mem_of_getElem? e1)) fun a ha => ?_
    obtain ⟨r, y⟩ := a
    obtain ⟨_, q2, rfl⟩ := prSt_step.1 ha
    have q3 : 0 ≤ ndT az x.1 r ∧ 0 ≤ ndT bz x.2.1 r := by simpa [kpB] using q2
    exact q3.1
  have one : ∀ s ∈ T, ∃ x, PL S x ∧ s = (lvSt S (lvA S) x).map fun a => a.1 ++ [(ixOf M a.2 : Int)] := fun s hs => by
    obtain ⟨j, hj, rfl⟩ := List.getElem_of_mem hs
    obtain ⟨x, e1, e2, _⟩ := g5 j (by omega)
    rw [List.getElem?_eq_getElem hj] at e2
    injection e2 with e2
    exact ⟨x, g4 x (List.mem_of_getElem? e1), e2⟩
  have h40 : ∀ s ∈ T, s.length ≤ 40 := fun s hs => by
    obtain ⟨x, hx, rfl⟩ := one s hs
    rw [List.length_map]
    have := (lvSt_ok wS (lvA S) hx).2
    have := hS40 _ hx.2.2
    omega
  refine ⟨adOK_of (fun s hs m hm => ?_) cT fun s hs => Nat.le_trans (h40 s hs) (by decide), by omega, h40, q, hq, hq0⟩
  · obtain ⟨x, hx, rfl⟩ := one s hs
    obtain ⟨a, ha, rfl⟩ := List.mem_map.1 hm
    rw [List.length_append, ((lvSt_ok wS _ hx).1 a ha).2]; rfl
/-- What And with a few adversary hands back is well-formed. -/
theorem and_ok {n : Int} {az R S T : List (List (List Int))} (hA : FwA n az) (wR : AdOK R) (hS : prA true az R = some S) (hT : lvR S = some T) (cT : chkA n T = 0) : AdOK T ∧ ∀ s ∈ T, s.length ≤ 40 := by
  have wS := prA_Ad hA.ok wR hS
  obtain ⟨N, t, h1, h2, h3, h4, h5⟩ := prA_shape hA.ok wR hS
  obtain ⟨M, t', g1, g2, g3, g4, g5⟩ := lvR_shape wS hT
  have hS40 : ∀ j, j < S.length → (S.getD j []).length ≤ 40 := fun j hj => by
    obtain ⟨x, e1, e2, _⟩ := h5 j (by omega)
    rw [List.getD_eq_getElem?_getD, e2]
    show (List.map _ _).length ≤ 40
    rw [List.length_map]
    refine prSt_lenA hA.st (h4 x (List.mem_of_getElem? e1)) fun a ha => ?_
    obtain ⟨r, y⟩ := a
    obtain ⟨_, q2, rfl⟩ := prSt_step.1 ha
    have q3 : 0 ≤ ndT az x.1 r ∧ 0 ≤ ndT R x.2.1 r := by simpa [kpB] using q2
    exact q3.1
  have one : ∀ s ∈ T, ∃ x, PL S x ∧ s = (lvSt S (lvA S) x).map fun a => a.1 ++ [(ixOf M a.2 : Int)] := fun s hs => by
    obtain ⟨j, hj, rfl⟩ := List.getElem_of_mem hs
    obtain ⟨x, e1, e2, _⟩ := g5 j (by omega)
    rw [List.getElem?_eq_getElem hj] at e2
    injection e2 with e2
    exact ⟨x, g4 x (List.mem_of_getElem? e1), e2⟩
  have h40 : ∀ s ∈ T, s.length ≤ 40 := fun s hs => by
    obtain ⟨x, hx, rfl⟩ := one s hs
    rw [List.length_map]
    have := (lvSt_ok wS (lvA S) hx).2
    have := hS40 _ hx.2.2
    omega
  refine ⟨adOK_of (fun s hs m hm => ?_) cT fun s hs => Nat.le_trans (h40 s hs) (by decide), h40⟩
  obtain ⟨x, hx, rfl⟩ := one s hs
  obtain ⟨a, ha, rfl⟩ := List.mem_map.1 hm
  rw [List.length_append, ((lvSt_ok wS _ hx).1 a ha).2]; rfl
theorem knowsSelf (az : List (List (List Int))) : Knows az az (fun j => (j : Int)) := ⟨rfl, fun j _ r hr => by
  have e : ndT az (j : Int) r = toI r (az.getD j []) := by rw [ndT, if_neg (by omega), Int.toNat_natCast]
  have hr : 0 ≤ toI r (az.getD j []) := hr
  show ndT az (j : Int) r = (((toI r (az.getD j [])).toNat : Nat) : Int)
  rw [e]; omega⟩
/-- Or with one below. -/
theorem or_down {n : Int} {az T : List (List (List Int))} {p : Nat → Int} (hA : FwA n az) (wT : AdOK T) (cT : chkA n T = 0) (hl : T.length ≤ 90) (mT : ∀ s ∈ T, s.length ≤ 200) (hp : Knows az T p) (hp0 : ∀ j, j < T.length → 0 ≤ p j) (hw : ∀ w, alw T w 0 → alw az w 0) :
    ∃ D, prA false az T = some D ∧ AdOK D ∧ D.length ≤ az.length + T.length ∧ Lg n D (fun w => alw az w 0) := by
  have q1 := hA.len
  obtain ⟨D, hD, hDl⟩ := orAbs hA.ok wT hp hp0 hA.st (by omega)
  obtain ⟨c1, c2⟩ := or_chk hA.ok wT hA.chk cT (fun s hs => by have := hA.st s hs; omega) mT hD
  exact ⟨D, hD, c2, hDl, c1, c2.lead', c2.asc, fun w => (or_alw hA.ok wT hD w).trans ⟨fun h => h.elim id (hw w), .inl⟩⟩
/-- Equal languages: states side by side. -/
theorem Lg.same {n : Int} {ss tt : List (List (List Int))} {L L' : List (List Int) → Prop} (h : Lg n ss L) (h' : Lg n tt L') (hL : ∀ w, L w ↔ L' w) : SimR (EqL ss tt) ss tt ∧ EqL ss tt 0 0 :=
  ⟨sim_of_alw h.asc h.lead h'.asc h'.lead, by have := (chkA_facts h.chk).2.1.1; omega, by have := (chkA_facts h'.chk).2.1.1; omega, fun w => (h.words w).trans ((hL w).trans (h'.words w).symm)⟩
end Go.Proofs.YtiiiegflobihjaaGreat

/- The lists of words and their lengths. Plain lists. -/
namespace Go.Proofs.YtiiiegflobihjaaGreat

section
variable {ss : List (List (List Int))}
theorem wL_mem (hA : ∀ s ∈ ss, AscL (s.map rdOf)) (hM : LeadOK ss) : ∀ (k s : Nat) (x : List (List Int)), x ∈ wL ss k s ↔ x.length = k ∧ alw ss x s
  | 0, s, x => by
    rw [wL, List.mem_singleton]
    exact ⟨fun h => by subst h; exact ⟨rfl, trivial⟩, fun h => List.length_eq_zero_iff.1 h.1⟩
  | k + 1, s, x => by
    rw [wL, List.mem_flatMap]
    constructor
    · rintro ⟨m, hm, h⟩
      obtain ⟨y, hy, rfl⟩ := List.mem_map.1 h
      obtain ⟨h1, h2⟩ := (wL_mem hA hM k (mvTo m) y).1 hy
      exact ⟨by rw [List.length_cons, h1], (alw_cons_mem hA hM hm).2 h2⟩
    · rintro ⟨h1, h2⟩
      cases x with
      | nil => cases h1
      | cons r y =>
        obtain ⟨m, hm, rfl, h3⟩ := alw_cons_some h2
        exact ⟨m, hm, List.mem_map_of_mem ((wL_mem hA hM k (mvTo m) y).2 ⟨by simpa using h1, h3⟩)⟩
theorem nodup_flat {α β : Type} {f : α → List β} : ∀ {l : List α}, (∀ a ∈ l, (f a).Nodup) → l.Pairwise (fun a b => ∀ x ∈ f a, x ∉ f b) → (l.flatMap f).Nodup
  | [], _, _ => by simp
  | a :: l, h1, h2 => by
    rw [List.pairwise_cons] at h2
    rw [List.flatMap_cons, List.nodup_append]
    refine ⟨h1 a (by simp), nodup_flat (fun b hb => h1 b (by simp [hb])) h2.2, fun x hx y hy e => ?_⟩
    subst e
    obtain ⟨b, hb, hxb⟩ := List.mem_flatMap.1 hy
    exact h2.1 b hb x hx hxb
theorem wL_nodup (hA : ∀ s ∈ ss, AscL (s.map rdOf)) : ∀ (k s : Nat), (wL ss k s).Nodup
  | 0, _ => by rw [wL]; simp
  | k + 1, s => by
    rw [wL]
    refine nodup_flat (fun m _ => ?_) ?_
    · rw [List.Nodup, List.pairwise_map]
      exact List.Pairwise.imp (fun {a b} hab e => hab (List.cons.inj e).2) (wL_nodup hA k (mvTo m))
    · have hasc : AscL ((ss.getD s []).map rdOf) := by
        rcases Nat.lt_or_ge s ss.length with h | h
        · exact hA _ (by rw [getD_eq h]; exact List.getElem_mem h)
        · rw [List.getD_eq_getElem?_getD, List.getElem?_eq_none h]; exact List.Pairwise.nil
      unfold AscL at hasc
      rw [List.pairwise_map] at hasc
      refine List.Pairwise.imp (fun {a b} hab x hx hx' => ?_) hasc
      obtain ⟨y, _, rfl⟩ := List.mem_map.1 hx
      obtain ⟨z, _, e⟩ := List.mem_map.1 hx'
      have e1 : rdOf b = rdOf a := (List.cons.inj e).1
      rw [e1, cmpL_self] at hab
      exact absurd hab (by decide)
end
theorem nodup_sub_len {α : Type} [DecidableEq α] : ∀ {l l' : List α}, l.Nodup → (∀ x ∈ l, x ∈ l') → l.length ≤ l'.length
  | [], _, _, _ => Nat.zero_le _
  | a :: l, l', hn, hs => by
    rw [List.nodup_cons] at hn
    have h1 := nodup_sub_len (l := l) (l' := l'.erase a) hn.2 fun x hx => (List.mem_erase_of_ne (fun e => hn.1 (by rw [← e]; exact hx))).2 (hs x (by simp [hx]))
    have h2 : a ∈ l' := hs a (by simp)
    have h3 := List.length_erase_of_mem h2
    have h4 := List.length_pos_of_mem h2
    rw [List.length_cons]; omega
/-- As many words as those that permit them. -/
theorem Lg.cnt_le {n : Int} {S az bz : List (List (List Int))} {L : List (List Int) → Prop} (h : Lg n S L) (aA : ∀ s ∈ az, AscL (s.map rdOf)) (mA : LeadOK az) (aB : ∀ s ∈ bz, AscL (s.map rdOf)) (mB : LeadOK bz) (hL : ∀ w, L w → alw az w 0 ∨ alw bz w 0) (k : Nat) : cnt S k 0 ≤ cnt az k 0 + cnt bz k 0 := by
  rw [← wL_len, ← wL_len, ← wL_len, ← List.length_append]
  refine nodup_sub_len (wL_nodup h.asc k 0) fun x hx => ?_
  obtain ⟨h1, h2⟩ := (wL_mem h.asc h.lead k 0 x).1 hx
  rcases hL x ((h.words x).1 h2) with h3 | h3
  · exact List.mem_append_left _ ((wL_mem aA mA k 0 x).2 ⟨h1, h3⟩)
  · exact List.mem_append_right _ ((wL_mem aB mB k 0 x).2 ⟨h1, h3⟩)
/-- Few words: the program counts them. -/
theorem num_of_cnt {ss : List (List (List Int))} (hM : LeadOK ss) (h0 : 0 < ss.length) {k : Nat} (h : cnt ss k 0 ≤ 4096) : num ss 4097 k ≤ 4096 := by
  have h1 := numL_cnt hM (L := 4097) (by omega) k 0 h0
  unfold num
  rw [h1]; omega
theorem cnt_of_num {ss : List (List (List Int))} (hM : LeadOK ss) (h0 : 0 < ss.length) {k L : Nat} (hL : 1 ≤ L) (h : num ss (L + 1) k ≤ L) : cnt ss k 0 ≤ L := by
  have h1 := numL_cnt hM (L := L + 1) (by omega) k 0 h0
  unfold num at h
  rw [h1] at h; omega
end Go.Proofs.YtiiiegflobihjaaGreat

/- good$1: one adversary is not fit for the law. -/
namespace Go.Proofs.YtiiiegflobihjaaGreat
open Go.RowKit

/-- Few, well-formed, of n0 processes, few words. -/
def gd1 (n0 n : Int) (ss : List (List (List Int))) (k : Nat) : Bool := fewA ss && (decide (chkA n ss = 0) && (decide (n = n0) && decide (num ss 61 k ≤ 60)))
set_option maxRecDepth 100000 in
set_option maxHeartbeats 1600000 in
theorem goodOne {w : World} {bl bk g N c xc : Nat} {xa : Option Addr} {n0 n : Int} {ss : List (List (List Int))} {k : Nat} (hA : AdvV w (.agg #[.int .i64 n, .slice xa ss.length xc]) n ss) (cl : w.cell? ⟨bl, 0, none⟩ = some (.slice (some ⟨g, 0, none⟩) N c)) (ck : w.cell? ⟨bk, 0, none⟩ = some (.int .i64 (k : Int))) (c0 : w.cell? ⟨g, 0, none⟩ = some (.int .i64 n0)) (hN : 0 < N) (hk : k ≤ 100) :
    Calls Tryz.prog 48 #[.agg #[.int .i64 n, .slice xa ss.length xc], .pointer (some ⟨bl, 0, none⟩), .pointer (some ⟨bk, 0, none⟩)] w fun e w' => e = .returned (.bool (!gd1 n0 n ss k)) ∧ Below w.heap.size w w' := by
  obtain ⟨W1, hW1⟩ : ∃ W1, W1 = w.alloc (.cells #[.int .i64 n, .slice xa ss.length xc] 24) := ⟨_, rfl⟩
  obtain ⟨hb1, p0, p1, _⟩ := boxAdv hW1
  have HX := Lib.hid (fun W (hb : Below W1.heap.size W1 W) => (hA.keep hb1).keep hb)
  have HF := Lib.hid (fun W (hb : Below W1.heap.size W1 W) => refFew (HX.out W hb))
  have HC := Lib.hid (fun W (hb : Below W1.heap.size W1 W) => refCheckA (HX.out W hb))
  have HK := Lib.hid (fun W (hb : Below W1.heap.size W1 W) => show W.cell? ⟨w.heap.size, 0, none⟩ = some (.int .i64 n) ∧ W.cell? ⟨w.heap.size, 1, none⟩ = some (.slice xa ss.length xc) ∧ W.cell? ⟨bl, 0, none⟩ = some (.slice (some ⟨g, 0, none⟩) N c) ∧ W.cell? ⟨bk, 0, none⟩ = some (.int .i64 (k : Int)) ∧ W.cell? ⟨g, 0, none⟩ = some (.int .i64 n0) from ⟨cell_kept hb p0, cell_kept hb p1, cell_kept hb (cell_kept hb1 cl), cell_kept hb (cell_kept hb1 ck), cell_kept hb (cell_kept hb1 c0)⟩)
  have hNi : (0 : Int) < (N : Int) := by omega
  have hmx : Tryz.prog.follows .mixedOrders = true := by kernel_rfl
  cases hf : fewA ss with
  | false =>
    have hr : gd1 n0 n ss k = false := by rw [gd1, hf]; rfl
    rw [hr]
    simp only [hf] at HF
    clear hA cl ck c0 p0 p1 hf
    go_enter Tryz.func48, Tryz.ntmps48
    go_wp2_with fail
    rw [← hW1]
    replace hW1 := Lib.hid hW1
    refine wp_region_bw hmx (by kernel_rfl) ?_
    (refine WQ.step (fun K hK => ?_)
     go_simp
     first
       | (refine hK _ ?_; clear hK K)
       | (apply Exists.intro
          refine ⟨fun wq hC => ?_, hK _ ?_⟩
          · (first | with_reducible rfl | (obtain ⟨fx0, fx1, fx2, fx3, fx4⟩ := HK.out wq hC; go_simp; first | done | with_reducible rfl | with_reducible exact ⟨rfl, rfl⟩))
          clear hK K))
    (refine WQ.step (fun K hK => ?_)
     go_simp
     first
       | (refine hK _ ?_; clear hK K)
       | (apply Exists.intro
          refine ⟨fun wq hC => ?_, hK _ ?_⟩
          · (refine (HF.out wq hC).mono ?_; rintro e w' ⟨rfl, hb⟩; exact ⟨rfl, btt hC hb⟩)
          clear hK K))
    repeat (refine WQ.step (fun K hK => ?_)
            go_simp
            first
              | (refine hK _ ?_; clear hK K)
              | (apply Exists.intro
                 refine ⟨fun wq hC => ?_, hK _ ?_⟩
                 · (first | with_reducible rfl | (obtain ⟨fx0, fx1, fx2, fx3, fx4⟩ := HK.out wq hC; go_simp; first | done | with_reducible rfl | with_reducible exact ⟨rfl, rfl⟩))
                 clear hK K))
    refine WQ.nil ?_
    intro w4 hq4
    go_wp2
    go_ret
    exact ⟨rfl, bt hb1 hq4 hb1.size⟩
  | true =>
    obtain ⟨E, hE⟩ : ∃ E, chkA n ss = E := ⟨_, rfl⟩
    simp only [hf] at HF
    simp only [hE] at HC
    by_cases h0 : E = 0
    · subst h0
      by_cases hn : n = n0
      · have hO := chk_cls hA hf hE
        have HN := Lib.hid (fun W (hb : Below W1.heap.size W1 W) => refNumG (k := k) (L := 61) (lim := 60) (HX.out W hb) hO hk rfl (by omega) (by omega))
        obtain ⟨z, hz⟩ : ∃ z, num ss 61 k = z := ⟨_, rfl⟩
        have hr : (!gd1 n0 n ss k) = decide ((60 : Int) < (z : Int)) := by
          rw [gd1, hf, hE, hz, decide_eq_true hn]
          by_cases h6 : z ≤ 60
          · rw [decide_eq_true h6, decide_eq_false (show ¬ (60 : Int) < (z : Int) by omega)]; rfl
          · rw [decide_eq_false h6, decide_eq_true (show (60 : Int) < (z : Int) by omega)]; rfl
        rw [hr]
        simp only [hz] at HN
        subst hn
        clear hA cl ck c0 p0 p1 hf hz hO hE hr
        go_enter Tryz.func48, Tryz.ntmps48
        go_wp2_with fail
        rw [← hW1]
        replace hW1 := Lib.hid hW1
        refine wp_region_bw hmx (by kernel_rfl) ?_
        (refine WQ.step (fun K hK => ?_)
         go_simp
         first
           | (refine hK _ ?_; clear hK K)
           | (apply Exists.intro
              refine ⟨fun wq hC => ?_, hK _ ?_⟩
              · (first | with_reducible rfl | (obtain ⟨fx0, fx1, fx2, fx3, fx4⟩ := HK.out wq hC; go_simp; first | done | with_reducible rfl | with_reducible exact ⟨rfl, rfl⟩))
              clear hK K))
        (refine WQ.step (fun K hK => ?_)
         go_simp
         first
           | (refine hK _ ?_; clear hK K)
           | (apply Exists.intro
              refine ⟨fun wq hC => ?_, hK _ ?_⟩
              · (refine (HF.out wq hC).mono ?_; rintro e w' ⟨rfl, hb⟩; exact ⟨rfl, btt hC hb⟩)
              clear hK K))
        repeat (refine WQ.step (fun K hK => ?_)
                go_simp
                first
                  | (refine hK _ ?_; clear hK K)
                  | (apply Exists.intro
                     refine ⟨fun wq hC => ?_, hK _ ?_⟩
                     · (first | with_reducible rfl | (obtain ⟨fx0, fx1, fx2, fx3, fx4⟩ := HK.out wq hC; go_simp; first | done | with_reducible rfl | with_reducible exact ⟨rfl, rfl⟩))
                     clear hK K))
        (refine WQ.step (fun K hK => ?_)
         go_simp
         first
           | (refine hK _ ?_; clear hK K)
           | (apply Exists.intro
              refine ⟨fun wq hC => ?_, hK _ ?_⟩
              · (refine (HC.out wq hC).mono ?_; rintro e w' ⟨rfl, hb⟩; exact ⟨rfl, btt hC hb⟩)
              clear hK K))
        repeat (refine WQ.step (fun K hK => ?_)
                go_simp
                first
                  | (refine hK _ ?_; clear hK K)
                  | (apply Exists.intro
                     refine ⟨fun wq hC => ?_, hK _ ?_⟩
                     · (first | with_reducible rfl | (obtain ⟨fx0, fx1, fx2, fx3, fx4⟩ := HK.out wq hC; go_simp; first | done | with_reducible rfl | with_reducible exact ⟨rfl, rfl⟩))
                     clear hK K))
        (refine WQ.step (fun K hK => ?_)
         go_simp
         first
           | (refine hK _ ?_; clear hK K)
           | (apply Exists.intro
              refine ⟨fun wq hC => ?_, hK _ ?_⟩
              · (refine (HN.out wq hC).mono ?_; rintro e w' ⟨rfl, hb⟩; exact ⟨rfl, btt hC hb⟩)
              clear hK K))
        repeat (refine WQ.step (fun K hK => ?_)
                go_simp
                first
                  | (refine hK _ ?_; clear hK K)
                  | (apply Exists.intro
                     refine ⟨fun wq hC => ?_, hK _ ?_⟩
                     · (first | with_reducible rfl | (obtain ⟨fx0, fx1, fx2, fx3, fx4⟩ := HK.out wq hC; go_simp; first | done | with_reducible rfl | with_reducible exact ⟨rfl, rfl⟩))
                     clear hK K))
        refine WQ.nil ?_
        intro w4 hq4
        go_wp2
        go_ret
        exact ⟨rfl, bt hb1 hq4 hb1.size⟩
      · have hr : gd1 n0 n ss k = false := by rw [gd1, hf, hE, decide_eq_false hn]; rfl
        have hne : (n != n0) = true := by simp [hn]
        have hne2 : (n == n0) = false := by simp [hn]
        rw [hr]
        clear hA cl ck c0 p0 p1 hf hE hr
        go_enter Tryz.func48, Tryz.ntmps48
        go_wp2_with fail
        rw [← hW1]
        replace hW1 := Lib.hid hW1
        refine wp_region_bw hmx (by kernel_rfl) ?_
        (refine WQ.step (fun K hK => ?_)
         go_simp
         first
           | (refine hK _ ?_; clear hK K)
           | (apply Exists.intro
              refine ⟨fun wq hC => ?_, hK _ ?_⟩
              · (first | with_reducible rfl | (obtain ⟨fx0, fx1, fx2, fx3, fx4⟩ := HK.out wq hC; go_simp; first | done | with_reducible rfl | with_reducible exact ⟨rfl, rfl⟩))
              clear hK K))
        (refine WQ.step (fun K hK => ?_)
         go_simp
         first
           | (refine hK _ ?_; clear hK K)
           | (apply Exists.intro
              refine ⟨fun wq hC => ?_, hK _ ?_⟩
              · (refine (HF.out wq hC).mono ?_; rintro e w' ⟨rfl, hb⟩; exact ⟨rfl, btt hC hb⟩)
              clear hK K))
        repeat (refine WQ.step (fun K hK => ?_)
                go_simp
                first
                  | (refine hK _ ?_; clear hK K)
                  | (apply Exists.intro
                     refine ⟨fun wq hC => ?_, hK _ ?_⟩
                     · (first | with_reducible rfl | (obtain ⟨fx0, fx1, fx2, fx3, fx4⟩ := HK.out wq hC; go_simp; first | done | with_reducible rfl | with_reducible exact ⟨rfl, rfl⟩))
                     clear hK K))
        (refine WQ.step (fun K hK => ?_)
         go_simp
         first
           | (refine hK _ ?_; clear hK K)
           | (apply Exists.intro
              refine ⟨fun wq hC => ?_, hK _ ?_⟩
              · (refine (HC.out wq hC).mono ?_; rintro e w' ⟨rfl, hb⟩; exact ⟨rfl, btt hC hb⟩)
              clear hK K))
        repeat (refine WQ.step (fun K hK => ?_)
                go_simp
                first
                  | (refine hK _ ?_; clear hK K)
                  | (apply Exists.intro
                     refine ⟨fun wq hC => ?_, hK _ ?_⟩
                     · (first | with_reducible rfl | (obtain ⟨fx0, fx1, fx2, fx3, fx4⟩ := HK.out wq hC; go_simp; first | done | with_reducible rfl | with_reducible exact ⟨rfl, rfl⟩))
                     clear hK K))
        refine WQ.nil ?_
        intro w4 hq4
        go_wp2
        go_ret
        exact ⟨rfl, bt hb1 hq4 hb1.size⟩
    · have hr : gd1 n0 n ss k = false := by rw [gd1, hf, hE, decide_eq_false h0]; rfl
      have h1 : (E != 0) = true := by simp [h0]
      have h2 : (E == 0) = false := by simp [h0]
      rw [hr]
      clear hA cl ck c0 p0 p1 hf hE hr
      go_enter Tryz.func48, Tryz.ntmps48
      go_wp2_with fail
      rw [← hW1]
      replace hW1 := Lib.hid hW1
      refine wp_region_bw hmx (by kernel_rfl) ?_
      (refine WQ.step (fun K hK => ?_)
       go_simp
       first
         | (refine hK _ ?_; clear hK K)
         | (apply Exists.intro
            refine ⟨fun wq hC => ?_, hK _ ?_⟩
            · (first | with_reducible rfl | (obtain ⟨fx0, fx1, fx2, fx3, fx4⟩ := HK.out wq hC; go_simp; first | done | with_reducible rfl | with_reducible exact ⟨rfl, rfl⟩))
            clear hK K))
      (refine WQ.step (fun K hK => ?_)
       go_simp
       first
         | (refine hK _ ?_; clear hK K)
         | (apply Exists.intro
            refine ⟨fun wq hC => ?_, hK _ ?_⟩
            · (refine (HF.out wq hC).mono ?_; rintro e w' ⟨rfl, hb⟩; exact ⟨rfl, btt hC hb⟩)
            clear hK K))
      repeat (refine WQ.step (fun K hK => ?_)
              go_simp
              first
                | (refine hK _ ?_; clear hK K)
                | (apply Exists.intro
                   refine ⟨fun wq hC => ?_, hK _ ?_⟩
                   · (first | with_reducible rfl | (obtain ⟨fx0, fx1, fx2, fx3, fx4⟩ := HK.out wq hC; go_simp; first | done | with_reducible rfl | with_reducible exact ⟨rfl, rfl⟩))
                   clear hK K))
      (refine WQ.step (fun K hK => ?_)
       go_simp
       first
         | (refine hK _ ?_; clear hK K)
         | (apply Exists.intro
            refine ⟨fun wq hC => ?_, hK _ ?_⟩
            · (refine (HC.out wq hC).mono ?_; rintro e w' ⟨rfl, hb⟩; exact ⟨rfl, btt hC hb⟩)
            clear hK K))
      repeat (refine WQ.step (fun K hK => ?_)
              go_simp
              first
                | (refine hK _ ?_; clear hK K)
                | (apply Exists.intro
                   refine ⟨fun wq hC => ?_, hK _ ?_⟩
                   · (first | with_reducible rfl | (obtain ⟨fx0, fx1, fx2, fx3, fx4⟩ := HK.out wq hC; go_simp; first | done | with_reducible rfl | with_reducible exact ⟨rfl, rfl⟩))
                   clear hK K))
      refine WQ.nil ?_
      intro w4 hq4
      go_wp2
      go_ret
      exact ⟨rfl, bt hb1 hq4 hb1.size⟩
end Go.Proofs.YtiiiegflobihjaaGreat

/- good: two adversaries are fit for the law. -/
namespace Go.Proofs.YtiiiegflobihjaaGreat
open Go.RowKit

set_option maxRecDepth 100000 in
set_option maxHeartbeats 1600000 in
theorem indexGood {w : World} {g bl bk al ac dl dc : Nat} {aa da : Option Addr} {m n : Int} {B0 B1 : Bool} (c0 : w.cell? ⟨g, 0, none⟩ = some (.int .i64 m)) (c1 : w.cell? ⟨g, 1, none⟩ = some (.slice aa al ac)) (c2 : w.cell? ⟨g, 2, none⟩ = some (.int .i64 n)) (c3 : w.cell? ⟨g, 3, none⟩ = some (.slice da dl dc))
    (H0 : Hid (∀ W, Below w.heap.size w W → Calls Tryz.prog 48 #[.agg #[.int .i64 m, .slice aa al ac], .pointer (some ⟨bl, 0, none⟩), .pointer (some ⟨bk, 0, none⟩)] W fun e w' => e = .returned (.bool B0) ∧ Below W.heap.size W w'))
    (H1 : Hid (∀ W, Below w.heap.size w W → Calls Tryz.prog 48 #[.agg #[.int .i64 n, .slice da dl dc], .pointer (some ⟨bl, 0, none⟩), .pointer (some ⟨bk, 0, none⟩)] W fun e w' => e = .returned (.bool B1) ∧ Below W.heap.size W w')) :
    Calls Tryz.prog 84 #[.slice (some ⟨g, 0, none⟩) 2 2, .func (.func 48) #[] #[.pointer (some ⟨bl, 0, none⟩), .pointer (some ⟨bk, 0, none⟩)]] w fun e w' => ∃ z : Int, e = .returned (.int .i64 z) ∧ decide (0 ≤ z) = (B0 || B1) ∧ Below w.heap.size w w' := by
  have HK := Lib.hid (fun W (hb : Below w.heap.size w W) => And.intro (cell_kept hb c0) (And.intro (cell_kept hb c1) (And.intro (cell_kept hb c2) (cell_kept hb c3))))
  clear c0 c1 c2 c3
  go_enter Tryz.func84, Tryz.ntmps84
  go_wp2_with fail
  go_loopw [8] (fun iv wr => ∃ i : Nat, iv = .int .i64 i ∧ i ≤ 2 ∧ (0 < i → B0 = false) ∧ (1 < i → B1 = false) ∧ Below w.heap.size w wr) (fun iv _ => 2 - (intOf iv).toNat)
  case atStart => exact ⟨0, rfl, by omega, fun h => absurd h (by decide), fun h => absurd h (by decide), Below.refl _ _⟩
  case round =>
    obtain ⟨i, rfl, hi, hB0, hB1, hbr⟩ := hrel
    obtain ⟨c0, c1, c2, c3⟩ := HK.out wr hbr
    have H0 := Lib.hid (H0.out wr hbr)
    have H1 := Lib.hid (H1.out wr hbr)
    rcases (show i = 0 ∨ i = 1 ∨ i = 2 by omega) with rfl | rfl | rfl
    · cases B0
      · clear hB0 hB1
        go_wp2_with fail
        refine H0.out.mono ?_
        rintro e w' ⟨rfl, hb⟩
        have hbn := bt hbr hb hbr.size
        go_wp2
        go_roundw
        case rel => exact ⟨1, by go_num, by omega, fun _ => by first | rfl | trivial, fun h => absurd h (by decide), hbn⟩
        case measure => simp [intOf]
      · clear hB0 hB1
        go_wp2_with fail
        refine H0.out.mono ?_
        rintro e w' ⟨rfl, hb⟩
        have hbn := bt hbr hb hbr.size
        go_wp2
        go_ret
        exact ⟨_, rfl, by simp, hbn⟩
    · obtain rfl := hB0 (by decide)
      cases B1
      · clear hB0 hB1
        go_wp2_with fail
        refine H1.out.mono ?_
        rintro e w' ⟨rfl, hb⟩
        have hbn := bt hbr hb hbr.size
        go_wp2
        go_roundw
        case rel => exact ⟨2, by go_num, by omega, fun _ => by first | rfl | trivial, fun _ => by first | rfl | trivial, hbn⟩
        case measure => simp [intOf]
      · clear hB0 hB1
        go_wp2_with fail
        refine H1.out.mono ?_
        rintro e w' ⟨rfl, hb⟩
        have hbn := bt hbr hb hbr.size
        go_wp2
        go_ret
        exact ⟨_, rfl, by simp, hbn⟩
    · obtain rfl := hB0 (by decide)
      obtain rfl := hB1 (by decide)
      clear hB0 hB1
      go_wp2
      go_ret
      exact ⟨_, rfl, by simp, hbr⟩
set_option maxRecDepth 100000 in
set_option maxHeartbeats 800000 in
theorem containsGood {w : World} {g bl bk al ac dl dc : Nat} {aa da : Option Addr} {m n : Int} {B0 B1 : Bool} (c0 : w.cell? ⟨g, 0, none⟩ = some (.int .i64 m)) (c1 : w.cell? ⟨g, 1, none⟩ = some (.slice aa al ac)) (c2 : w.cell? ⟨g, 2, none⟩ = some (.int .i64 n)) (c3 : w.cell? ⟨g, 3, none⟩ = some (.slice da dl dc))
    (H0 : Hid (∀ W, Below w.heap.size w W → Calls Tryz.prog 48 #[.agg #[.int .i64 m, .slice aa al ac], .pointer (some ⟨bl, 0, none⟩), .pointer (some ⟨bk, 0, none⟩)] W fun e w' => e = .returned (.bool B0) ∧ Below W.heap.size W w'))
    (H1 : Hid (∀ W, Below w.heap.size w W → Calls Tryz.prog 48 #[.agg #[.int .i64 n, .slice da dl dc], .pointer (some ⟨bl, 0, none⟩), .pointer (some ⟨bk, 0, none⟩)] W fun e w' => e = .returned (.bool B1) ∧ Below W.heap.size W w')) :
    Calls Tryz.prog 47 #[.slice (some ⟨g, 0, none⟩) 2 2, .func (.func 48) #[] #[.pointer (some ⟨bl, 0, none⟩), .pointer (some ⟨bk, 0, none⟩)]] w fun e w' => e = .returned (.bool (B0 || B1)) ∧ Below w.heap.size w w' := by
  have HI := Lib.hid (indexGood c0 c1 c2 c3 H0 H1)
  obtain ⟨A, hA⟩ : ∃ A, (B0 || B1) = A := ⟨_, rfl⟩
  rw [hA] at HI ⊢
  replace hA := Lib.hid hA
  clear c0 c1 c2 c3 H0 H1
  go_enter Tryz.func47, Tryz.ntmps47
  go_wp2_with fail
  refine HI.out.mono ?_
  rintro e w' ⟨z, rfl, hz, hw'⟩
  go_wp2
  go_ret
  exact ⟨rfl, hw'⟩
set_option maxRecDepth 100000 in
set_option maxHeartbeats 1600000 in
/-- good at two adversaries that lie in a row. -/
theorem goodTwo {w : World} {g : Nat} {xa ya : Option Addr} {xc yc : Nat} {m n : Int} {xs ys : List (List (List Int))} (hx : AdvV w (.agg #[.int .i64 m, .slice xa xs.length xc]) m xs) (hy : AdvV w (.agg #[.int .i64 n, .slice ya ys.length yc]) n ys)
    (c0 : w.cell? ⟨g, 0, none⟩ = some (.int .i64 m)) (c1 : w.cell? ⟨g, 1, none⟩ = some (.slice xa xs.length xc)) (c2 : w.cell? ⟨g, 2, none⟩ = some (.int .i64 n)) (c3 : w.cell? ⟨g, 3, none⟩ = some (.slice ya ys.length yc)) {k : Nat} (hk : k ≤ 100) :
    Calls Tryz.prog 17 #[.int .i64 (k : Int), .slice (some ⟨g, 0, none⟩) 2 2] w fun e w' => e = .returned (.bool (gd1 m m xs k && gd1 m n ys k)) ∧ Below w.heap.size w w' := by
  obtain ⟨W1, hW1⟩ : ∃ W1, W1 = (w.alloc (.cells #[.int .i64 (k : Int)] 3)).alloc (.cells #[.slice (some ⟨g, 0, none⟩) 2 2] 87) := ⟨_, rfl⟩
  have hb1 : Below w.heap.size w W1 := by rw [hW1]; exact ((Below.refl _ w).alloc (Nat.le_refl _) _).alloc (by simp) _
  have kK : W1.heap[w.heap.size]? = some (.cells #[.int .i64 (k : Int)] 3) := by
    rw [hW1]; exact (Below.heap_alloc _ _ _ (by simp)).trans (heap_alloc_new w _)
  have kL : W1.heap[w.heap.size + 1]? = some (.cells #[.slice (some ⟨g, 0, none⟩) 2 2] 87) := by
    rw [hW1]
    have := heap_alloc_new (w.alloc (.cells #[.int .i64 (k : Int)] 3)) (.cells #[.slice (some ⟨g, 0, none⟩) 2 2] 87)
    rwa [World.size_alloc] at this
  have ek : W1.cell? ⟨w.heap.size, 0, none⟩ = some (.int .i64 (k : Int)) := box_cell (j := 0) kK rfl
  have el : W1.cell? ⟨w.heap.size + 1, 0, none⟩ = some (.slice (some ⟨g, 0, none⟩) 2 2) := box_cell (j := 0) kL rfl
  have d0 := cell_kept hb1 c0
  have d1 := cell_kept hb1 c1
  have d2 := cell_kept hb1 c2
  have d3 := cell_kept hb1 c3
  have HC := Lib.hid (containsGood (bl := w.heap.size + 1) (bk := w.heap.size) d0 d1 d2 d3
    (fun W hb => goodOne ((hx.keep hb1).keep hb) (cell_kept hb el) (cell_kept hb ek) (cell_kept hb d0) (by decide) hk)
    (fun W hb => goodOne ((hy.keep hb1).keep hb) (cell_kept hb el) (cell_kept hb ek) (cell_kept hb d0) (by decide) hk))
  have hr : (gd1 m m xs k && gd1 m n ys k) = !((!gd1 m m xs k) || (!gd1 m n ys k)) := by
    cases gd1 m m xs k <;> cases gd1 m n ys k <;> rfl
  rw [hr]
  obtain ⟨A, hA⟩ : ∃ A, ((!gd1 m m xs k) || (!gd1 m n ys k)) = A := ⟨_, rfl⟩
  rw [hA] at HC ⊢
  replace hA := Lib.hid hA
  rw [hW1] at ek el
  clear hx hy hr kK kL c0 c1 c2 c3 d0 d1 d2 d3
  go_enter Tryz.func17, Tryz.ntmps17
  go_wp2_with fail
  rw [← hW1]
  replace hW1 := Lib.hid hW1
  clear ek el
  refine HC.out.mono ?_
  rintro e w' ⟨rfl, hw'⟩
  go_wp2
  go_ret
  exact ⟨rfl, bt hb1 hw' hb1.size⟩
end Go.Proofs.YtiiiegflobihjaaGreat

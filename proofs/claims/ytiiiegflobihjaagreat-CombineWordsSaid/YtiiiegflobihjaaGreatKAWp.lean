/- Texts of this claim, put together: E6 U0 CK CP CO CS CT. -/
import Derived.Test.YtiiiegflobihjaaGreatKAWj
import Derived.Test.YtiiiegflobihjaaGreatKAWk
import Derived.Test.YtiiiegflobihjaaGreatKAWn
import Derived.Test.YtiiiegflobihjaaGreatKAWo
import Derived.Laws.EntriesVeiled
import Derived.Test.YtiiiegflobihjaaGreatKAWl
import Derived.Test.YtiiiegflobihjaaGreatKAWh
import Derived.Laws.AppendOwnNone

/- Is and Equal. -/
namespace Go.Proofs.YtiiiegflobihjaaGreat
open Go.RowKit Go.ChangeMaps Go.MapKept

/-- The answer of Equal. -/
def eqErr (m n : Int) (xs ys : List (List (List Int))) : Int := if chkA m xs ≠ 0 then chkA m xs else if chkA n ys ≠ 0 then chkA n ys else if m ≠ n then 22 else 0
end Go.Proofs.YtiiiegflobihjaaGreat

/- Two systems side by side: words, search and form of the one are those of the other; classes of states are classes of languages. Plain lists. -/
namespace Go.Proofs.YtiiiegflobihjaaGreat

theorem ascL_of {n : Int} {ss : List (List (List Int))} (h : chkA n ss = 0) : ∀ s ∈ ss, AscL (s.map rdOf) := fun s hs => by
  obtain ⟨_, _, h3, _⟩ := chkA_facts h
  have h4 := ssGo_zero h3 s hs
  unfold stErr at h4
  by_cases he : s.length = 0
  · rw [List.length_eq_zero_iff.1 he]; exact List.Pairwise.nil
  rw [if_neg he] at h4
  have hadj : ∀ i, 0 < i → i < s.length → cmpL (rdOf (s.getD (i - 1) [])) (rdOf (s.getD i [])) < 0 := fun i h0 hi => by
    obtain ⟨_, _, c3, _, _⟩ := mvErr_zero (mvGo_zero h4 i (by omega) (by omega))
    have := c3 h0
    unfold rdOf; omega
  unfold AscL
  rw [List.pairwise_iff_getElem]
  intro i j hi hj hij
  rw [List.length_map] at hi hj
  rw [List.getElem_map, List.getElem_map]
  obtain ⟨d, rfl⟩ : ∃ d, j = i + 1 + d := ⟨j - i - 1, by omega⟩
  induction d with
  | zero =>
    have := hadj (i + 1) (by omega) hj
    rw [Nat.add_sub_cancel, getD_eq hi, getD_eq hj] at this
    exact this
  | succ d ih =>
    have h1 := ih (by rw [List.length_map]; omega) (by omega) (by omega)
    have h2 := hadj (i + 1 + (d + 1)) (by omega) hj
    rw [show i + 1 + (d + 1) - 1 = i + 1 + d by omega, getD_eq (by omega : i + 1 + d < s.length), getD_eq hj] at h2
    exact cmpL_trans _ _ _ h1 h2
/-- Two lists, element by element. -/
def All2 {α β : Type} (R : α → β → Prop) : List α → List β → Prop
  | [], [] => True
  | a :: l, b :: m => R a b ∧ All2 R l m
  | _, _ => False
section
variable {α β : Type} {R : α → β → Prop}
theorem All2.len : ∀ {l : List α} {m : List β}, All2 R l m → l.length = m.length
  | [], [], _ => rfl
  | _ :: _, _ :: _, h => by rw [List.length_cons, List.length_cons, All2.len h.2]
  | [], _ :: _, h => h.elim
  | _ :: _, [], h => h.elim
theorem All2.imp {R' : α → β → Prop} (hi : ∀ a b, R a b → R' a b) : ∀ {l : List α} {m : List β}, All2 R l m → All2 R' l m
  | [], [], _ => trivial
  | _ :: _, _ :: _, h => ⟨hi _ _ h.1, All2.imp hi h.2⟩
  | [], _ :: _, h => h.elim
  | _ :: _, [], h => h.elim
theorem All2.app : ∀ {l l' : List α} {m m' : List β}, All2 R l m → All2 R l' m' → All2 R (l ++ l') (m ++ m')
  | [], _, [], _, _, h' => h'
  | _ :: _, _, _ :: _, _, h, h' => ⟨h.1, All2.app h.2 h'⟩
  | [], _, _ :: _, _, h, _ => h.elim
  | _ :: _, _, [], _, h, _ => h.elim
theorem All2.at {d : α} {d' : β} : ∀ {l : List α} {m : List β} {i : Nat}, All2 R l m → i < l.length → R (l.getD i d) (m.getD i d')
  | [], _, i, _, hi => absurd hi (Nat.not_lt_zero _)
  | _ :: _, _ :: _, 0, h, _ => h.1
  | _ :: _, _ :: _, i + 1, h, hi => by
    rw [List.getD_cons_succ, List.getD_cons_succ]
    exact All2.at h.2 (by simpa using hi)
  | _ :: _, [], _, h, _ => h.elim
theorem All2.of_map' {γ : Type} {f : α → γ} {g : β → γ} : ∀ {l : List α} {m : List β}, (∀ a ∈ l, ∀ b ∈ m, f a = g b → R a b) → l.map f = m.map g → All2 R l m
  | [], [], _, _ => trivial
  | a :: l, b :: m, hr, h => by
    rw [List.map_cons, List.map_cons, List.cons.injEq] at h
    exact ⟨hr _ (by simp) _ (by simp) h.1, All2.of_map' (fun a ha b hb => hr a (by simp [ha]) b (by simp [hb])) h.2⟩
  | [], _ :: _, _, h => by cases h
  | _ :: _, [], _, h => by cases h
end

/-- Moves that match. -/
def MvR (ρ : Nat → Nat → Prop) (m m' : List Int) : Prop := rdOf m = rdOf m' ∧ ρ (mvTo m) (mvTo m')
def SimR (ρ : Nat → Nat → Prop) (ss tt : List (List (List Int))) : Prop := ∀ s t, ρ s t → All2 (MvR ρ) (ss.getD s []) (tt.getD t [])
section
variable {ρ : Nat → Nat → Prop} {kf kf' : Nat → Nat} {ss tt : List (List (List Int))}
theorem ClsOK.len8 (h : ClsOK ss) : ∀ s ∈ ss, ∀ m ∈ s, m.length = 8 := fun s hs m hm => ((h.2.2.2 s hs).2 m hm).2.1
end

/-- A word is permitted from a state on. -/
def alw (ss : List (List (List Int))) : List (List Int) → Nat → Prop
  | [], _ => True
  | r :: w, s => 0 ≤ toI r (ss.getD s []) ∧ alw ss w (toI r (ss.getD s [])).toNat
section
variable {ρ : Nat → Nat → Prop} {ss tt : List (List (List Int))}
theorem alw_after : ∀ {w : List (List Int)} {s : Nat}, alw ss w s ↔ 0 ≤ afterI ss w s
  | [], s => by simp [alw, afterI]
  | r :: w, s => by
    rw [alw, afterI]
    by_cases h : toI r (ss.getD s []) < 0
    · rw [if_pos h]
      exact ⟨fun h' => absurd h'.1 (by omega), fun h' => absurd h' (by decide)⟩
    · rw [if_neg h, alw_after (w := w)]
      exact ⟨fun h' => h'.2, fun h' => ⟨by omega, h'⟩⟩
theorem toI_mem {m : List Int} : ∀ {x : List (List Int)}, AscL (x.map rdOf) → m ∈ x → toI (rdOf m) x = m.getD 7 0
  | [], _, h => by cases h
  | a :: x, ha, h => by
    rw [List.map_cons] at ha
    unfold AscL at ha
    rw [List.pairwise_cons] at ha
    rw [toI]
    rcases List.mem_cons.1 h with rfl | h
    · rw [if_pos rfl]
    · rw [if_neg, toI_mem ha.2 h]
      intro e
      have h1 := ha.1 (rdOf m) (List.mem_map_of_mem h)
      rw [e] at h1
      exact cmpL_asymm _ _ h1 h1
theorem toI_out {r : List Int} : ∀ {x : List (List Int)}, r ∉ x.map rdOf → toI r x = -1
  | [], _ => rfl
  | a :: x, h => by
    rw [List.map_cons, List.mem_cons, not_or] at h
    rw [toI, if_neg (fun e => h.1 e.symm), toI_out h.2]
theorem toI_in {r : List Int} {x : List (List Int)} (h0 : ∀ m ∈ x, 0 ≤ m.getD 7 0) : 0 ≤ toI r x ↔ r ∈ x.map rdOf := by
  constructor
  · intro h
    by_cases hr : r ∈ x.map rdOf
    · exact hr
    · rw [toI_out hr] at h; exact absurd h (by decide)
  · exact toI_self h0
end
end Go.Proofs.YtiiiegflobihjaaGreat

/- combine: check, paired, Or. -/
namespace Go.Proofs.YtiiiegflobihjaaGreat
open Go.RowKit

theorem adOK_of {n : Int} {ss : List (List (List Int))} (h8 : ∀ s ∈ ss, ∀ m ∈ s, m.length = 8) (h : chkA n ss = 0) (hl : ∀ s ∈ ss, s.length ≤ 400) : AdOK ss := by
  have hasc := ascL_of h
  obtain ⟨_, ⟨h1, h2, _⟩, h3, _⟩ := chkA_facts h
  refine ⟨h1, by omega, fun s hs => ?_⟩
  have h4 := ssGo_zero h3 s hs
  unfold stErr at h4
  by_cases he : s.length = 0
  · rw [if_pos he] at h4; cases h4
  rw [if_neg he] at h4
  refine ⟨by omega, hl s hs, hasc s hs, fun m hmm => ?_⟩
  obtain ⟨j, hj, rfl⟩ := List.mem_iff_getElem.1 hmm
  obtain ⟨c1, _, _, c4, c5⟩ := mvErr_zero (mvGo_zero h4 j (by omega) (by omega))
  rw [getD_eq hj] at c1 c4 c5
  exact ⟨h8 s hs _ hmm, c4, c5⟩
theorem toI_pos {ss : List (List (List Int))} (h : AdOK ss) {s : Int} {r : List Int} (hr : r ∈ (ndM ss s).map rdOf) : 0 ≤ ndT ss s r := by
  have hm := ndM_all h s
  rw [ndM] at hr hm
  rw [ndT]
  split at hr
  · cases hr
  · rename_i h0
    rw [if_neg h0] at hm ⊢
    exact toI_self (fun m hmm => (hm m hmm).2.1) hr
/-- What is behind a pair that is met is met. -/
theorem prSt_ok {bt : Bool} {az bz : List (List (List Int))} (wA : AdOK az) (wB : AdOK bz) {x : Nd} (hx : PrP az bz x) : (∀ a ∈ prSt bt az bz x, PrP az bz a.2 ∧ a.1.length = 7) ∧ (prSt bt az bz x).length ≤ 800 := by
  obtain ⟨h1, h2⟩ := prRs_len wA wB hx
  refine ⟨fun a ha => ?_, Nat.le_trans (List.length_filterMap_le _ _) h1⟩
  obtain ⟨r, hr, he⟩ := List.mem_filterMap.1 ha
  unfold prF at he
  split at he
  · injection he with he
    subst he
    refine ⟨⟨ndT_ge wA r, ndT_ge wB r, ?_, rfl⟩, h2 r hr⟩
    have hm := (lets_mem _ _).1 hr
    rw [List.map_append] at hm
    rcases List.mem_append.1 hm with h | h
    · exact .inl (toI_pos wA h)
    · exact .inr (toI_pos wB h)
  · cases he
theorem PrP.sm {az bz : List (List (List Int))} (wA : AdOK az) (wB : AdOK bz) {x : Nd} (hx : PrP az bz x) : SmN x := by
  obtain ⟨h1, h2, _, h3⟩ := hx
  have := wA.len
  have := wB.len
  exact ⟨by omega, by omega, by rw [h3]; simp, by rw [h3]; simp⟩
theorem PrP.first {az bz : List (List (List Int))} (wA : AdOK az) (wB : AdOK bz) : PrP az bz nd0 := by
  have := wA.pos
  have := wB.pos
  refine ⟨⟨?_, ?_⟩, ⟨?_, ?_⟩, ?_, rfl⟩ <;> simp only [nd0] <;> omega

set_option maxRecDepth 100000 in
set_option maxHeartbeats 800000 in
theorem checkC {w : World} {u v : Value} {m n : Int} {xs ys : List (List (List Int))} (hx : AdvV w u m xs) (hy : AdvV w v n ys) (hxm : movesN xs ≤ 1000000000) (hym : movesN ys ≤ 1000000000) :
    Calls Tryz.prog 29 #[u, v] w fun e w' => e = .returned (.int .i64 (eqErr m n xs ys)) ∧ Below w.heap.size w w' := by
  obtain ⟨xa, xc, hu⟩ := advShape' hx
  obtain ⟨ya, yc, hv⟩ := advShape' hy
  subst hu hv
  obtain ⟨W1, hW1⟩ : ∃ W1, W1 = (w.alloc (.cells #[.int .i64 m, .slice xa xs.length xc] 24)).alloc (.cells #[.int .i64 n, .slice ya ys.length yc] 24) := ⟨_, rfl⟩
  obtain ⟨hb1, ⟨p0, p1⟩, ⟨q0, q1⟩, _, _⟩ := boxAdv2 hW1
  have HX := Lib.hid (checkA (hx.keep hb1) hxm)
  have HY := Lib.hid (fun W (hb : Below W1.heap.size W1 W) => checkA ((hy.keep hb1).keep hb) hym)
  have hK := Lib.hid (fun W (hb : Below W1.heap.size W1 W) => And.intro (cell_kept hb p0) (And.intro (cell_kept hb p1) (And.intro (cell_kept hb q0) (cell_kept hb q1))))
  obtain ⟨E, hE⟩ : ∃ E, chkA m xs = E := ⟨_, rfl⟩
  obtain ⟨F, hF⟩ : ∃ F, chkA n ys = F := ⟨_, rfl⟩
  have hr : eqErr m n xs ys = if E ≠ 0 then E else if F ≠ 0 then F else if m ≠ n then 22 else 0 := by rw [eqErr, hE, hF]
  rw [hE] at HX
  rw [hF] at HY
  rw [hr]
  clear hr hE hF hx hy p0 p1 q0 q1
  by_cases h1 : E = 0
  · subst h1
    rw [if_neg (fun h => h rfl)]
    by_cases h2 : F = 0
    · subst h2
      rw [if_neg (fun h => h rfl)]
      by_cases h3 : m = n
      · subst h3
        rw [if_neg (fun h => h rfl)]
        have hmm : (m != m) = false := by simp
        go_enter Tryz.func29, Tryz.ntmps29
        go_wp2_with fail
        rw [← hW1]
        refine HX.out.mono ?_
        rintro e W2 ⟨rfl, hb2⟩
        obtain ⟨_, _, k2, k3⟩ := hK.out W2 hb2
        go_wp2_with fail
        clear k2 k3
        refine (HY.out W2 hb2).mono ?_
        rintro e W3 ⟨rfl, hb3⟩
        have B3 := btt hb2 hb3
        obtain ⟨k0, k1, k2, k3⟩ := hK.out W3 B3
        go_wp2
        go_ret
        exact ⟨rfl, bt hb1 B3 hb1.size⟩
      · rw [if_pos h3]
        have hmm : (m != n) = true := by simp [h3]
        go_enter Tryz.func29, Tryz.ntmps29
        go_wp2_with fail
        rw [← hW1]
        refine HX.out.mono ?_
        rintro e W2 ⟨rfl, hb2⟩
        obtain ⟨_, _, k2, k3⟩ := hK.out W2 hb2
        go_wp2_with fail
        clear k2 k3
        refine (HY.out W2 hb2).mono ?_
        rintro e W3 ⟨rfl, hb3⟩
        have B3 := btt hb2 hb3
        obtain ⟨k0, k1, k2, k3⟩ := hK.out W3 B3
        go_wp2
        go_ret
        exact ⟨rfl, bt hb1 B3 hb1.size⟩
    · rw [if_pos h2]
      have hf : (F != 0) = true := by simp [h2]
      have hf2 : (F == 0) = false := by simp [h2]
      go_enter Tryz.func29, Tryz.ntmps29
      go_wp2_with fail
      rw [← hW1]
      refine HX.out.mono ?_
      rintro e W2 ⟨rfl, hb2⟩
      obtain ⟨_, _, k2, k3⟩ := hK.out W2 hb2
      go_wp2_with fail
      clear k2 k3
      refine (HY.out W2 hb2).mono ?_
      rintro e W3 ⟨rfl, hb3⟩
      have B3 := btt hb2 hb3
      go_wp2
      go_ret
      exact ⟨rfl, bt hb1 B3 hb1.size⟩
  · rw [if_pos h1]
    have hf : (E != 0) = true := by simp [h1]
    have hf2 : (E == 0) = false := by simp [h1]
    go_enter Tryz.func29, Tryz.ntmps29
    go_wp2_with fail
    rw [← hW1]
    refine HX.out.mono ?_
    rintro e W2 ⟨rfl, hb2⟩
    go_wp2
    go_ret
    exact ⟨rfl, bt hb1 hb2 hb1.size⟩
/-- What paired hands back: a builder, whose function of moves has four boxes. -/
def PairOut (w : World) (K : Nat) (n n' : Int) (sa sb : Value) (e : Ending) (w' : World) : Prop :=
  ∃ bF bA bB bK, e = .returned (.agg #[.int .i64 n, .int .i64 0, .int .i64 0, .string ⟨#[]⟩, .func (.func 64) #[] #[.pointer (some ⟨bF, 0, none⟩), .pointer (some ⟨bA, 0, none⟩), .pointer (some ⟨bB, 0, none⟩), .pointer (some ⟨bK, 0, none⟩)]]) ∧
    w'.heap[bF]? = some (.cells #[.func (.func 63) #[] #[]] 104) ∧ w'.heap[bK]? = some (.cells #[.func (.func K) #[] #[]] 67) ∧
    w'.heap[bA]? = some (.cells #[.int .i64 n, sa] 24) ∧ w'.heap[bB]? = some (.cells #[.int .i64 n', sb] 24) ∧ Below w.heap.size w w'
set_option maxRecDepth 100000 in
set_option maxHeartbeats 800000 in
theorem pairedC {w : World} {K : Nat} {n n' : Int} {aa ba : Option Addr} {al bl ac bc : Nat} :
    Calls Tryz.prog 30 #[.agg #[.int .i64 n, .slice aa al ac], .agg #[.int .i64 n', .slice ba bl bc], .func (.func K) #[] #[]] w (PairOut w K n n' (.slice aa al ac) (.slice ba bl bc)) := by
  go_enter Tryz.func30, Tryz.ntmps30
  go_wp2
  obtain ⟨Wf, hWf⟩ : ∃ Wf, Wf = ((((w.alloc (.cells #[.int .i64 n, .slice aa al ac] 24)).alloc (.cells #[.int .i64 n', .slice ba bl bc] 24)).alloc (.cells #[.func (.func K) #[] #[]] 67)).alloc
    (.cells #[.int .i64 n, .int .i64 0, .int .i64 0, .string ⟨#[]⟩, .func (.func 64) #[] #[.pointer (some ⟨w.heap.size + 1 + 1 + 1 + 1, 0, none⟩), .pointer (some ⟨w.heap.size, 0, none⟩), .pointer (some ⟨w.heap.size + 1, 0, none⟩), .pointer (some ⟨w.heap.size + 1 + 1, 0, none⟩)]] 65)).alloc (.cells #[.func (.func 63) #[] #[]] 104) := ⟨_, rfl⟩
  have hbf : Below w.heap.size w Wf := by
    rw [hWf]
    exact (((((Below.refl _ w).alloc (Nat.le_refl _) _).alloc (by simp) _).alloc (by first | (simp; done) | (simp; omega)) _).alloc (by first | (simp; done) | (simp; omega)) _).alloc (by first | (simp; done) | (simp; omega)) _
  have nA : Wf.heap[w.heap.size]? = some (.cells #[.int .i64 n, .slice aa al ac] 24) := by
    rw [hWf]
    exact (Below.heap_alloc _ _ _ (by first | (simp; done) | (simp; omega))).trans ((Below.heap_alloc _ _ _ (by first | (simp; done) | (simp; omega))).trans ((Below.heap_alloc _ _ _ (by first | (simp; done) | (simp; omega))).trans ((Below.heap_alloc _ _ _ (by simp)).trans (heap_alloc_new w _))))
  have nB : Wf.heap[w.heap.size + 1]? = some (.cells #[.int .i64 n', .slice ba bl bc] 24) := by
    rw [hWf]
    have := heap_alloc_new (w.alloc (.cells #[.int .i64 n, .slice aa al ac] 24)) (.cells #[.int .i64 n', .slice ba bl bc] 24)
    rw [World.size_alloc] at this
    exact (Below.heap_alloc _ _ _ (by first | (simp; done) | (simp; omega))).trans ((Below.heap_alloc _ _ _ (by first | (simp; done) | (simp; omega))).trans ((Below.heap_alloc _ _ _ (by simp)).trans this))
  have nK : Wf.heap[w.heap.size + 1 + 1]? = some (.cells #[.func (.func K) #[] #[]] 67) := by
    rw [hWf]
    have := heap_alloc_new ((w.alloc (.cells #[.int .i64 n, .slice aa al ac] 24)).alloc (.cells #[.int .i64 n', .slice ba bl bc] 24)) (.cells #[.func (.func K) #[] #[]] 67)
    rw [World.size_alloc, World.size_alloc] at this
    exact (Below.heap_alloc _ _ _ (by first | (simp; done) | (simp; omega))).trans ((Below.heap_alloc _ _ _ (by simp)).trans this)
  have nF : Wf.heap[w.heap.size + 1 + 1 + 1 + 1]? = some (.cells #[.func (.func 63) #[] #[]] 104) := by
    rw [hWf]
    have := heap_alloc_new ((((w.alloc (.cells #[.int .i64 n, .slice aa al ac] 24)).alloc (.cells #[.int .i64 n', .slice ba bl bc] 24)).alloc (.cells #[.func (.func K) #[] #[]] 67)).alloc
      (.cells #[.int .i64 n, .int .i64 0, .int .i64 0, .string ⟨#[]⟩, .func (.func 64) #[] #[.pointer (some ⟨w.heap.size + 1 + 1 + 1 + 1, 0, none⟩), .pointer (some ⟨w.heap.size, 0, none⟩), .pointer (some ⟨w.heap.size + 1, 0, none⟩), .pointer (some ⟨w.heap.size + 1 + 1, 0, none⟩)]] 65)) (.cells #[.func (.func 63) #[] #[]] 104)
    simpa only [World.size_alloc] using this
  refine bodyPost_ret (v := .agg #[.int .i64 n, .int .i64 0, .int .i64 0, .string ⟨#[]⟩, .func (.func 64) #[] #[.pointer (some ⟨w.heap.size + 1 + 1 + 1 + 1, 0, none⟩), .pointer (some ⟨w.heap.size, 0, none⟩), .pointer (some ⟨w.heap.size + 1, 0, none⟩), .pointer (some ⟨w.heap.size + 1 + 1, 0, none⟩)]]) (by simp [results, Tryz.results30, go_sem]) rfl ?_
  rw [← hWf]
  exact ⟨_, _, _, _, rfl, nF, nK, nA, nB, hbf⟩
end Go.Proofs.YtiiiegflobihjaaGreat

/- combine.Or. -/
namespace Go.Proofs.YtiiiegflobihjaaGreat
open Go.RowKit

set_option maxRecDepth 100000 in
set_option maxHeartbeats 1600000 in
theorem orGood {w : World} {u v : Value} {m n : Int} {xs ys : List (List (List Int))} (hx : AdvV w u m xs) (hy : AdvV w v n ys) (hxm : movesN xs ≤ 1000000000) (hym : movesN ys ≤ 1000000000) (h0 : eqErr m n xs ys = 0) (wA : AdOK xs) (wB : AdOK ys) :
    Calls Tryz.prog 10 #[u, v] w (BdOut w m (prA false xs ys)) := by
  obtain ⟨xa, xc, hu⟩ := advShape' hx
  obtain ⟨ya, yc, hv⟩ := advShape' hy
  subst hu hv
  obtain ⟨W1, hW1⟩ : ∃ W1, W1 = ((w.alloc (.cells #[.int .i64 m, .slice xa xs.length xc] 24)).alloc (.cells #[.int .i64 n, .slice ya ys.length yc] 24)).alloc (.cells #[.int .i64 0, .slice none 0 0] 24) := ⟨_, rfl⟩
  have hb1 : Below w.heap.size w W1 := by rw [hW1]; exact (((Below.refl _ w).alloc (Nat.le_refl _) _).alloc (by simp) _).alloc (by first | (simp; done) | (simp; omega)) _
  have kX : W1.heap[w.heap.size]? = some (.cells #[.int .i64 m, .slice xa xs.length xc] 24) := by
    rw [hW1]; exact (Below.heap_alloc _ _ _ (by first | (simp; done) | (simp; omega))).trans ((Below.heap_alloc _ _ _ (by simp)).trans (heap_alloc_new w _))
  have kY : W1.heap[w.heap.size + 1]? = some (.cells #[.int .i64 n, .slice ya ys.length yc] 24) := by
    rw [hW1]
    have := heap_alloc_new (w.alloc (.cells #[.int .i64 m, .slice xa xs.length xc] 24)) (.cells #[.int .i64 n, .slice ya ys.length yc] 24)
    rw [World.size_alloc] at this
    exact (Below.heap_alloc _ _ _ (by simp)).trans this
  have kR : W1.heap[w.heap.size + 1 + 1]? = some (.cells #[.int .i64 0, .slice none 0 0] 24) := by
    rw [hW1]
    have := heap_alloc_new ((w.alloc (.cells #[.int .i64 m, .slice xa xs.length xc] 24)).alloc (.cells #[.int .i64 n, .slice ya ys.length yc] 24)) (.cells #[.int .i64 0, .slice none 0 0] 24)
    rwa [World.size_alloc, World.size_alloc] at this
  have HC := Lib.hid (checkC (hx.keep hb1) (hy.keep hb1) hxm hym)
  rw [h0] at HC
  have HX := Lib.hid (fun W (hb : Below W1.heap.size W1 W) => (hx.keep hb1).keep hb)
  have HY := Lib.hid (fun W (hb : Below W1.heap.size W1 W) => (hy.keep hb1).keep hb)
  have hK := Lib.hid (fun W (hb : Below W1.heap.size W1 W) => And.intro (box2 ((hb.block _ (Array.getElem?_eq_some_iff.1 kX).1).trans kX)) (And.intro (box2 ((hb.block _ (Array.getElem?_eq_some_iff.1 kY).1).trans kY)) ((hb.block _ (Array.getElem?_eq_some_iff.1 kR).1).trans kR)))
  have hR := prA_eq false xs ys
  obtain ⟨R, hRR⟩ : ∃ R, prA false xs ys = R := ⟨_, rfl⟩
  rw [hRR] at hR ⊢
  replace hR := Lib.hid hR
  replace hRR := Lib.hid hRR
  clear hx hy kX kY kR h0
  go_enter Tryz.func10, Tryz.ntmps10
  go_wp2_with fail
  rw [← hW1]
  replace hW1 := Lib.hid hW1
  refine HC.out.mono ?_
  rintro e W2 ⟨rfl, hb2⟩
  obtain ⟨⟨a0, a1⟩, ⟨b0, b1⟩, _⟩ := hK.out W2 hb2
  go_wp2_with fail
  clear a0 a1 b0 b1
  refine pairedC.mono ?_
  rintro e W3 ⟨bF, bA, bB, bK, rfl, kF, kK, kA, kB, hb3⟩
  have B3 := btt hb2 hb3
  have HB : Calls Tryz.prog 32 #[.agg #[.int .i64 m, .int .i64 0, .int .i64 0, .string ⟨#[]⟩, .func (.func 64) #[] #[.pointer (some ⟨bF, 0, none⟩), .pointer (some ⟨bA, 0, none⟩), .pointer (some ⟨bB, 0, none⟩), .pointer (some ⟨bK, 0, none⟩)]]] W3 (BdOut W3 m R) :=
    build1 (fs := nd0) (step := prSt false xs ys) (P := PrP xs ys) (fun W x hb hP => pairedMvOr ((hb.block _ (Array.getElem?_eq_some_iff.1 kF).1).trans kF) ((hb.block _ (Array.getElem?_eq_some_iff.1 kK).1).trans kK) ((hb.block _ (Array.getElem?_eq_some_iff.1 kA).1).trans kA) ((hb.block _ (Array.getElem?_eq_some_iff.1 kB).1).trans kB) (HX.out W (btt B3 hb)) (HY.out W (btt B3 hb)) wA wB hP)
      (PrP.first wA wB) (fun x hP => (prSt_ok wA wB hP).1) (fun x hP => hP.sm wA wB) (fun x hP => Nat.le_trans (prSt_ok wA wB hP).2 (by decide)) hR.out
  replace HB := Lib.hid HB
  clear kF kK kA kB
  go_wp2_with fail
  refine HB.out.mono ?_
  intro e W4 hO
  have hbw3 := bt hb1 B3 hb1.size
  cases R with
  | none =>
    obtain ⟨rfl, hb4⟩ := hO
    have B4 := btt B3 hb4
    obtain ⟨_, _, kR4⟩ := hK.out W4 B4
    obtain ⟨y0, y1⟩ := box2 kR4
    have yf0 := row_free kR4 0
    have yf1 := row_free kR4 1
    have z0 : W4.setCell ⟨w.heap.size + 1 + 1, 0, none⟩ (.int .i64 0) = W4 := setSame y0
    have z1 : W4.setCell ⟨w.heap.size + 1 + 1, 1, none⟩ (.slice none 0 0) = W4 := setSame y1
    go_wp2
    refine bodyPost_ret (v := .tuple #[.agg #[.int .i64 0, .slice none 0 0], .int .i64 17]) (by simp [results, Tryz.results10, go_sem, y0, y1]) rfl ?_
    exact BdOut.no (bt hbw3 hb4 hbw3.size)
  | some ss =>
    obtain ⟨uo, rfl, hA, hb4⟩ := hO
    have B4 := btt B3 hb4
    obtain ⟨_, _, kR4⟩ := hK.out W4 B4
    have hA' := hA
    obtain ⟨sv, rfl, hrow, hl1, hl2⟩ := hA'
    obtain ⟨sva, svc, hsv⟩ := hrow.shape
    subst hsv
    obtain ⟨y0, y1⟩ := box2 kR4
    have yf := row_free kR4
    have hr1 := heap_setCell_same W4 (w.heap.size + 1 + 1) 0 _ _ (.int .i64 m) kR4
    have hr2 := two_setCell (u := .slice sva ss.length svc) hr1
    have hx2 := (KeepX.setCell (p := ⟨w.heap.size + 1 + 1, 0, none⟩) kR4 (.int .i64 m)).trans (KeepX.setCell (p := ⟨w.heap.size + 1 + 1, 1, none⟩) hr1 (.slice sva ss.length svc))
    have hbw4 := bt hbw3 hb4 hbw3.size
    have hbe := (hbw4.setCell (p := ⟨w.heap.size + 1 + 1, 0, none⟩) (by show w.heap.size ≤ w.heap.size + 1 + 1; omega) (.int .i64 m)).setCell (p := ⟨w.heap.size + 1 + 1, 1, none⟩) (by show w.heap.size ≤ w.heap.size + 1 + 1; omega) (.slice sva ss.length svc)
    obtain ⟨z0, z1⟩ := box2 hr2
    have hfin := hA.other hx2
    replace hfin := Lib.hid hfin
    clear hr1 hr2 hx2 hrow hA kR4
    go_wp2
    obtain ⟨W8, hW8⟩ : ∃ W8, W8 = (W4.setCell ⟨w.heap.size + 1 + 1, 0, none⟩ (.int .i64 m)).setCell ⟨w.heap.size + 1 + 1, 1, none⟩ (.slice sva ss.length svc) := ⟨_, rfl⟩
    rw [← hW8] at z0 z1 hfin hbe ⊢
    clear hW8
    refine bodyPost_ret (v := .tuple #[.agg #[.int .i64 m, .slice sva ss.length svc], .int .i64 0]) (by simp [results, Tryz.results10, go_sem, z0, z1]) rfl ?_
    exact BdOut.yes hfin.out hbe
end Go.Proofs.YtiiiegflobihjaaGreat

/- The reference: letters, find, both. -/
namespace Go.Proofs.YtiiiegflobihjaaGreat
open Go.RowKit

/-- Pairs in rows of the reference. -/
def EPr (_ : World) (cs : List Value) (x : Nd) : Prop := cs = [.int .i64 x.1, .int .i64 x.2.1] ∧ x.2.2 = []
theorem EPr.stab (E : TypeId) : Stab E EPr := fun _ _ _ _ h _ => h
theorem eqPr (d : Nat) (a b a' b' : Int) (w : World) : (Op.equalIn (d + 2) 113 (.agg #[.int .i64 a, .int .i64 b]) (.agg #[.int .i64 a', .int .i64 b'])).run Tryz.prog w = .ok (eqL [a, b] [a', b']) w := by
  have u3 := Tryz.underlying3
  have a3 := Tryz.isAgg3
  have z3 := Tryz.sizeOf3
  have hS : Tryz.prog.underlying 113 = some (.struct (Tryz.prog.fieldsOf 113)) := by kernel_rfl
  have hp : Tryz.prog.stoodInHeld 113 = false := by kernel_rfl
  rw [show d + 2 = (d + 1) + 1 from rfl, run_equalIn_agg w (d + 1) 113 _ _ hS hp]
  simp only [Program.fieldsOf, Tryz.underlying113]
  go_simp
  by_cases h0 : a = a' <;> by_cases h1 : b = b' <;> simp_all [eqL]
@[go_sem high] theorem eqPr' (a b a' b' : Int) (w : World) : (Op.equalIn 10000 113 (.agg #[.int .i64 a, .int .i64 b]) (.agg #[.int .i64 a', .int .i64 b'])).run Tryz.prog w = .ok (eqL [a, b] [a', b']) w := eqPr 9998 a b a' b' w

end Go.Proofs.YtiiiegflobihjaaGreat

/- Rows of bools; the reference's alive. -/
namespace Go.Proofs.YtiiiegflobihjaaGreat
open Go.RowKit

/-- A row of bools that was made since block B. -/
def OB (w : World) (B : Nat) (v : Value) (n : Nat) (xs : List Bool) : Prop := w.ownsRow B 4 1 v n (xs.map Value.bool)
theorem OB.length {w : World} {B : Nat} {v : Value} {n : Nat} {xs : List Bool} (h : OB w B v n xs) : xs.length = n := by have := h.1; simpa using this
theorem OB.keep {w w' : World} {B : Nat} {v : Value} {n : Nat} {xs : List Bool} (h : OB w B v n xs) (hb : Below w.heap.size w w') : OB w' B v n xs := by
  refine ⟨h.1, ?_⟩
  rcases h.2 with h' | ⟨g, cap, cur, h1, h2, h3, h4⟩
  · exact .inl h'
  · exact .inr ⟨g, cap, cur, h1, h2, (hb.block g (Array.getElem?_eq_some_iff.1 h3).1).trans h3, h4⟩
theorem OB.base {w : World} {B B' : Nat} {v : Value} {n : Nat} {xs : List Bool} (h : OB w B v n xs) (hb : B' ≤ B) : OB w B' v n xs := by
  refine ⟨h.1, ?_⟩
  rcases h.2 with h' | ⟨g, cap, cur, h1, h2, h3⟩
  · exact .inl h'
  · exact .inr ⟨g, cap, cur, h1, by omega, h3⟩
theorem OB.store {w : World} {B g n cap : Nat} {xs : List Bool} (h : OB w B (.slice (some ⟨g, 0, none⟩) n cap) n xs) (j : Nat) (y : Bool) :
    OB (w.setCell ⟨g, j, none⟩ (.bool y)) B (.slice (some ⟨g, 0, none⟩) n cap) n (xs.set j y) := by
  have := (World.ownsRow.stored h j (.bool y)).1
  unfold OB
  rw [List.map_set]
  exact this
theorem OB.cell {w : World} {B g n cap : Nat} {xs : List Bool} (h : OB w B (.slice (some ⟨g, 0, none⟩) n cap) n xs) {j : Nat} (hj : j < n) : w.cell? ⟨g, j, none⟩ = some (.bool (xs.getD j false)) := by
  have hl := h.length
  rw [World.ownsRow.cellAt h j (by omega)]
  simp [show j < xs.length by omega]
theorem OB.free {w : World} {B g n cap : Nat} {xs : List Bool} (h : OB w B (.slice (some ⟨g, 0, none⟩) n cap) n xs) (j : Nat) : w.frozen? ⟨g, j, none⟩ = false := World.ownsRow.frozenAt h j
theorem psK_snoc {ss : List (List (List Int))} : ∀ (k s : Nat) (live : List Bool), psK ss (k + 1) s live = psAt ss (psK ss k s live) (s + k)
  | 0, _, _ => rfl
  | k + 1, s, live => by
    rw [psK, psK_snoc k, ← psK, show s + 1 + k = s + (k + 1) by omega]
/-- Adversaries whose states may have no moves. -/
structure AdW (ss : List (List (List Int))) : Prop where
  pos : 0 < ss.length
  len : ss.length ≤ 1000
  st : ∀ s ∈ ss, s.length ≤ 4096 ∧ ∀ m ∈ s, m.length = 8 ∧ 0 ≤ m.getD 7 0 ∧ m.getD 7 0 < (ss.length : Int)
theorem AdOK.w {ss : List (List (List Int))} (h : AdOK ss) : AdW ss := ⟨h.pos, h.len, fun s hs => ⟨by have := (h.st s hs).2.1; omega, (h.st s hs).2.2.2⟩⟩

end Go.Proofs.YtiiiegflobihjaaGreat

/- combine.endless: its function, IndexFunc and ContainsFunc of moves with it. -/
namespace Go.Proofs.YtiiiegflobihjaaGreat
open Go.RowKit

set_option maxRecDepth 100000 in
set_option maxHeartbeats 800000 in
theorem endless1 {w : World} {b g N cap B : Nat} {live : List Bool} (kb : w.heap[b]? = some (.cells #[.slice (some ⟨g, 0, none⟩) N cap] 71)) (hO : OB w B (.slice (some ⟨g, 0, none⟩) N cap) N live) (m0 m1 m2 m3 m4 m5 m6 : Int) {t : Nat} (ht : t < N) :
    Calls Tryz.prog 75 #[.agg #[.int .i64 m0, .int .i64 m1, .int .i64 m2, .int .i64 m3, .int .i64 m4, .int .i64 m5, .int .i64 m6, .int .i64 (t : Int)], .pointer (some ⟨b, 0, none⟩)] w fun e w' => e = .returned (.bool (live.getD t false)) ∧ Below w.heap.size w w' := by
  have hb1 := (Below.refl w.heap.size w).alloc (Nat.le_refl _) (.cells #[.int .i64 m0, .int .i64 m1, .int .i64 m2, .int .i64 m3, .int .i64 m4, .int .i64 m5, .int .i64 m6, .int .i64 (t : Int)] 58)
  have e0 := cell_kept hb1 (box_cell (j := 0) kb rfl)
  have e1 := cell_kept hb1 (hO.cell ht)
  have e7 := box_cell (j := 7) (heap_alloc_new w (.cells #[.int .i64 m0, .int .i64 m1, .int .i64 m2, .int .i64 m3, .int .i64 m4, .int .i64 m5, .int .i64 m6, .int .i64 (t : Int)] 58)) rfl
  have hti : (t : Int) < (N : Int) := by omega
  obtain ⟨A, hA⟩ : ∃ A, live.getD t false = A := ⟨_, rfl⟩
  rw [hA] at e1 ⊢
  replace hA := Lib.hid hA
  clear kb hO
  go_enter Tryz.func75, Tryz.ntmps75
  go_wp2
  go_ret
  exact ⟨rfl, hb1⟩
set_option maxRecDepth 100000 in
set_option maxHeartbeats 1600000 in
theorem indexLive {w : World} {v : Value} {xs : List (List Int)} {b g N cap B : Nat} {live : List Bool} (hks : KS 8 w v xs) (kb : w.heap[b]? = some (.cells #[.slice (some ⟨g, 0, none⟩) N cap] 71)) (hO : OB w B (.slice (some ⟨g, 0, none⟩) N cap) N live)
    (hto : ∀ j < xs.length, 0 ≤ (xs.getD j []).getD 7 0 ∧ (xs.getD j []).getD 7 0 < (N : Int)) :
    Calls Tryz.prog 100 #[v, .func (.func 75) #[] #[.pointer (some ⟨b, 0, none⟩)]] w fun e w' => ∃ z : Int, e = .returned (.int .i64 z) ∧ decide (0 ≤ z) = xs.any (fun m => live.getD (mvTo m) false) ∧ Below w.heap.size w w' := by
  obtain ⟨pa, pc, pb, po, rfl, hpa, hpc, hpl⟩ := hks
  obtain ⟨A, hA⟩ : ∃ A, xs.any (fun m => live.getD (mvTo m) false) = A := ⟨_, rfl⟩
  rw [hA]
  have hyes : Hid (∀ i, i < xs.length → live.getD (mvTo (xs.getD i [])) false = true → A = true) := fun i hi h => by
    rw [← hA, List.any_eq_true]
    exact ⟨xs.getD i [], by rw [getD_eq hi]; exact List.getElem_mem hi, h⟩
  have hno : Hid ((∀ i, i < xs.length → live.getD (mvTo (xs.getD i [])) false = false) → A = false) := fun h => by
    rw [← hA, List.any_eq_false]
    intro x hx
    obtain ⟨i, hi, rfl⟩ := List.getElem_of_mem hx
    have := h i hi
    rw [getD_eq hi] at this
    rw [this]; simp
  have HL := Lib.hid (fun W (hb : Below w.heap.size w W) m0 m1 m2 m3 m4 m5 m6 t (ht : t < N) => endless1 ((hb.block _ (Array.getElem?_eq_some_iff.1 kb).1).trans kb) (hO.keep hb) m0 m1 m2 m3 m4 m5 m6 ht)
  have hcl := Lib.hid (fun W (hb : Below w.heap.size w W) j (hj : j < xs.length) => And.intro (hpc j hj).1 ((hpc j hj).2.keep hb))
  replace hto := Lib.hid hto
  replace hpa := Lib.hid hpa
  replace hA := Lib.hid hA
  clear hpc kb hO
  go_enter Tryz.func100, Tryz.ntmps100
  go_wp2_with fail
  go_loopw [8] (fun iv wr => ∃ i : Nat, iv = .int .i64 i ∧ i ≤ xs.length ∧ Hid (∀ j, j < i → live.getD (mvTo (xs.getD j [])) false = false) ∧ Below w.heap.size w wr) (fun iv _ => xs.length - (intOf iv).toNat)
  case atStart => exact ⟨0, rfl, by omega, fun j hj => absurd hj (Nat.not_lt_zero _), Below.refl _ _⟩
  case round =>
    obtain ⟨i, rfl, hi, hn, hbr⟩ := hrel
    by_cases hlt : i < xs.length
    · have hii : (i : Int) < (xs.length : Int) := by omega
      obtain rfl := hpa.out (by omega)
      obtain ⟨h8, hmc⟩ := hcl.out wr hbr i hlt
      obtain ⟨t7b, t7c⟩ := hto.out i hlt
      obtain ⟨m, hm⟩ : ∃ m, xs.getD i [] = m := ⟨_, rfl⟩
      rw [hm] at h8 hmc t7b t7c
      obtain ⟨m0, m1, m2, m3, m4, m5, m6, m7, rfl⟩ := eight h8
      have t7b : 0 ≤ m7 := t7b
      have t7c : m7 < (N : Int) := t7c
      obtain ⟨t, rfl⟩ : ∃ t : Nat, m7 = (t : Int) := ⟨m7.toNat, by omega⟩
      have htl : t < N := by omega
      obtain ⟨c0, c1, c2, c3, c4, c5, c6, c7⟩ := hmc.all8
      have hmt : mvTo (xs.getD i []) = t := by rw [hm]; simp [mvTo]
      have HL1 := HL.out wr hbr m0 m1 m2 m3 m4 m5 m6 t htl
      have hy := hyes.out i hlt
      rw [hmt] at hy
      obtain ⟨q, hq⟩ : ∃ q, live.getD t false = q := ⟨_, rfl⟩
      rw [hq] at HL1 hy
      replace HL1 := Lib.hid HL1
      replace hm := Lib.hid hm
      clear hmc h8 t7b t7c
      cases q
      · have hn2 : Hid (∀ j, j < i + 1 → live.getD (mvTo (xs.getD j [])) false = false) := fun j hj => by
          by_cases e : j = i
          · subst e; rw [hmt]; exact hq
          · exact hn.out j (by omega)
        clear hn hy hmt hq
        go_wp2_with fail
        refine HL1.out.mono ?_
        rintro e w2 ⟨rfl, hb2⟩
        have hbf := bt hbr hb2 hbr.size
        go_wp2
        go_roundw
        case rel => exact ⟨i + 1, by go_num, hlt, hn2, hbf⟩
        case measure => simp [intOf]; omega
      · have hAt := Lib.hid (hy rfl)
        clear hn hy hmt hq
        go_wp2_with fail
        refine HL1.out.mono ?_
        rintro e w2 ⟨rfl, hb2⟩
        have hbf := bt hbr hb2 hbr.size
        go_wp2
        go_ret
        exact ⟨_, rfl, by rw [hAt.out]; exact decide_eq_true (by omega), hbf⟩
    · obtain rfl : i = xs.length := by omega
      have hAf := Lib.hid (hno.out hn.out)
      have hge : ¬ ((xs.length : Int) < (xs.length : Int)) := by omega
      clear hn
      go_wp2
      go_ret
      exact ⟨_, rfl, by rw [hAf.out]; rfl, hbr⟩
set_option maxRecDepth 100000 in
set_option maxHeartbeats 800000 in
theorem containsLive {w : World} {v : Value} {xs : List (List Int)} {b g N cap B : Nat} {live : List Bool} (hks : KS 8 w v xs) (kb : w.heap[b]? = some (.cells #[.slice (some ⟨g, 0, none⟩) N cap] 71)) (hO : OB w B (.slice (some ⟨g, 0, none⟩) N cap) N live)
    (hto : ∀ j < xs.length, 0 ≤ (xs.getD j []).getD 7 0 ∧ (xs.getD j []).getD 7 0 < (N : Int)) :
    Calls Tryz.prog 74 #[v, .func (.func 75) #[] #[.pointer (some ⟨b, 0, none⟩)]] w fun e w' => e = .returned (.bool (xs.any fun m => live.getD (mvTo m) false)) ∧ Below w.heap.size w w' := by
  have HI := Lib.hid (indexLive hks kb hO hto)
  obtain ⟨pa, pc, hv⟩ := hks.shape
  subst hv
  obtain ⟨A, hA⟩ : ∃ A, (xs.any fun m => live.getD (mvTo m) false) = A := ⟨_, rfl⟩
  rw [hA] at HI ⊢
  replace hA := Lib.hid hA
  clear hks kb hO hto
  go_enter Tryz.func74, Tryz.ntmps74
  go_wp2_with fail
  refine HI.out.mono ?_
  rintro e w' ⟨z, rfl, hz, hb⟩
  go_wp2
  go_ret
  exact ⟨rfl, hb⟩
end Go.Proofs.YtiiiegflobihjaaGreat

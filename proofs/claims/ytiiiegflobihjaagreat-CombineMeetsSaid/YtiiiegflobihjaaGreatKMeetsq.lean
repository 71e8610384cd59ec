/- Texts of this claim, put together: E6 U0 CK CP CL. -/
import Derived.Test.YtiiiegflobihjaaGreatKMeetsj
import Derived.Test.YtiiiegflobihjaaGreatKMeetsk
import Derived.Test.YtiiiegflobihjaaGreatKMeetso
import Derived.Test.YtiiiegflobihjaaGreatKMeetsp
import Derived.Laws.EntriesVeiled
import Derived.Test.YtiiiegflobihjaaGreatKMeetsh
import Derived.Laws.AppendOwnNone

/- Is and Equal. -/
namespace Go.Proofs.YtiiiegflobihjaaGreat
open Go.RowKit Go.ChangeMaps Go.MapKept

/-- The answer of Equal. -/
def eqErr (m n : Int) (xs ys : List (List (List Int))) : Int := if chkA m xs ≠ 0 then chkA m xs else if chkA n ys ≠ 0 then chkA n ys else if m ≠ n then 22 else 0
end Go.Proofs.YtiiiegflobihjaaGreat

/- Two systems side by side: words, search and form of the one are those of the other; classes of states are classes of languages. Plain lists. -/
namespace Go.Proofs.YtiiiegflobihjaaGreat

theorem ascL_of {n : Int} {ss : List (List (List Int))} (h : chkA n ss = 0) : ∀ s ∈ ss, AscL (s.map rdOf) := fun s hs => by
  obtain ⟨_, _, h3, _⟩ := chkA_facts h
  have h4 := ssGo_zero h3 s hs
  unfold stErr at h4
  by_cases he : s.length = 0
  · rw [List.length_eq_zero_iff.1 he]; exact List.Pairwise.nil
  rw [if_neg he] at h4
  have hadj : ∀ i, 0 < i → i < s.length → cmpL (rdOf (s.getD (i - 1) [])) (rdOf (s.getD i [])) < 0 := fun i h0 hi => by
    obtain ⟨_, _, c3, _, _⟩ := mvErr_zero (mvGo_zero h4 i (by omega) (by omega))
    have := c3 h0
    unfold rdOf; omega
  unfold AscL
  rw [List.pairwise_iff_getElem]
  intro i j hi hj hij
  rw [List.length_map] at hi hj
  rw [List.getElem_map, List.getElem_map]
  obtain ⟨d, rfl⟩ : ∃ d, j = i + 1 + d := ⟨j - i - 1, by omega⟩
  induction d with
  | zero =>
    have := hadj (i + 1) (by omega) hj
    rw [Nat.add_sub_cancel, getD_eq hi, getD_eq hj] at this
    exact this
  | succ d ih =>
    have h1 := ih (by rw [List.length_map]; omega) (by omega) (by omega)
    have h2 := hadj (i + 1 + (d + 1)) (by omega) hj
    rw [show i + 1 + (d + 1) - 1 = i + 1 + d by omega, getD_eq (by omega : i + 1 + d < s.length), getD_eq hj] at h2
    exact cmpL_trans _ _ _ h1 h2
/-- Two lists, element by element. -/
def All2 {α β : Type} (R : α → β → Prop) : List α → List β → Prop
  | [], [] => True
  | a :: l, b :: m => R a b ∧ All2 R l m
  | _, _ => False
section
variable {α β : Type} {R : α → β → Prop}
theorem All2.len : ∀ {l : List α} {m : List β}, All2 R l m → l.length = m.length
  | [], [], _ => rfl
  | _ :: _, _ :: _, h => by rw [List.length_cons, List.length_cons, All2.len h.2]
  | [], _ :: _, h => h.elim
  | _ :: _, [], h => h.elim
theorem All2.imp {R' : α → β → Prop} (hi : ∀ a b, R a b → R' a b) : ∀ {l : List α} {m : List β}, All2 R l m → All2 R' l m
  | [], [], _ => trivial
  | _ :: _, _ :: _, h => ⟨hi _ _ h.1, All2.imp hi h.2⟩
  | [], _ :: _, h => h.elim
  | _ :: _, [], h => h.elim
end

section
variable {ρ : Nat → Nat → Prop} {kf kf' : Nat → Nat} {ss tt : List (List (List Int))}
theorem ClsOK.len8 (h : ClsOK ss) : ∀ s ∈ ss, ∀ m ∈ s, m.length = 8 := fun s hs m hm => ((h.2.2.2 s hs).2 m hm).2.1
end

/-- A word is permitted from a state on. -/
def alw (ss : List (List (List Int))) : List (List Int) → Nat → Prop
  | [], _ => True
  | r :: w, s => 0 ≤ toI r (ss.getD s []) ∧ alw ss w (toI r (ss.getD s [])).toNat
section
variable {ρ : Nat → Nat → Prop} {ss tt : List (List (List Int))}
theorem alw_after : ∀ {w : List (List Int)} {s : Nat}, alw ss w s ↔ 0 ≤ afterI ss w s
  | [], s => by simp [alw, afterI]
  | r :: w, s => by
    rw [alw, afterI]
    by_cases h : toI r (ss.getD s []) < 0
    · rw [if_pos h]
      exact ⟨fun h' => absurd h'.1 (by omega), fun h' => absurd h' (by decide)⟩
    · rw [if_neg h, alw_after (w := w)]
      exact ⟨fun h' => h'.2, fun h' => ⟨by omega, h'⟩⟩
theorem toI_out {r : List Int} : ∀ {x : List (List Int)}, r ∉ x.map rdOf → toI r x = -1
  | [], _ => rfl
  | a :: x, h => by
    rw [List.map_cons, List.mem_cons, not_or] at h
    rw [toI, if_neg (fun e => h.1 e.symm), toI_out h.2]
theorem toI_in {r : List Int} {x : List (List Int)} (h0 : ∀ m ∈ x, 0 ≤ m.getD 7 0) : 0 ≤ toI r x ↔ r ∈ x.map rdOf := by
  constructor
  · intro h
    by_cases hr : r ∈ x.map rdOf
    · exact hr
    · rw [toI_out hr] at h; exact absurd h (by decide)
  · exact toI_self h0
end
end Go.Proofs.YtiiiegflobihjaaGreat

/- combine: check, paired, Or. -/
namespace Go.Proofs.YtiiiegflobihjaaGreat
open Go.RowKit

theorem adOK_of {n : Int} {ss : List (List (List Int))} (h8 : ∀ s ∈ ss, ∀ m ∈ s, m.length = 8) (h : chkA n ss = 0) (hl : ∀ s ∈ ss, s.length ≤ 400) : AdOK ss := by
  have hasc := ascL_of h
  obtain ⟨_, ⟨h1, h2, _⟩, h3, _⟩ := chkA_facts h
  refine ⟨h1, by omega, fun s hs => ?_⟩
  have h4 := ssGo_zero h3 s hs
  unfold stErr at h4
  by_cases he : s.length = 0
  · rw [if_pos he] at h4; cases h4
  rw [if_neg he] at h4
  refine ⟨by omega, hl s hs, hasc s hs, fun m hmm => ?_⟩
  obtain ⟨j, hj, rfl⟩ := List.mem_iff_getElem.1 hmm
  obtain ⟨c1, _, _, c4, c5⟩ := mvErr_zero (mvGo_zero h4 j (by omega) (by omega))
  rw [getD_eq hj] at c1 c4 c5
  exact ⟨h8 s hs _ hmm, c4, c5⟩
theorem toI_pos {ss : List (List (List Int))} (h : AdOK ss) {s : Int} {r : List Int} (hr : r ∈ (ndM ss s).map rdOf) : 0 ≤ ndT ss s r := by
  have hm := ndM_all h s
  rw [ndM] at hr hm
  rw [ndT]
  split at hr
  · cases hr
  · rename_i h0
    rw [if_neg h0] at hm ⊢
    exact toI_self (fun m hmm => (hm m hmm).2.1) hr
/-- What is behind a pair that is met is met. -/
theorem prSt_ok {bt : Bool} {az bz : List (List (List Int))} (wA : AdOK az) (wB : AdOK bz) {x : Nd} (hx : PrP az bz x) : (∀ a ∈ prSt bt az bz x, PrP az bz a.2 ∧ a.1.length = 7) ∧ (prSt bt az bz x).length ≤ 800 := by
  obtain ⟨h1, h2⟩ := prRs_len wA wB hx
  refine ⟨fun a ha => ?_, Nat.le_trans (List.length_filterMap_le _ _) h1⟩
  obtain ⟨r, hr, he⟩ := List.mem_filterMap.1 ha
  unfold prF at he
  split at he
  · injection he with he
    subst he
    refine ⟨⟨ndT_ge wA r, ndT_ge wB r, ?_, rfl⟩, h2 r hr⟩
    have hm := (lets_mem _ _).1 hr
    rw [List.map_append] at hm
    rcases List.mem_append.1 hm with h | h
    · exact .inl (toI_pos wA h)
    · exact .inr (toI_pos wB h)
  · cases he
theorem PrP.sm {az bz : List (List (List Int))} (wA : AdOK az) (wB : AdOK bz) {x : Nd} (hx : PrP az bz x) : SmN x := by
  obtain ⟨h1, h2, _, h3⟩ := hx
  have := wA.len
  have := wB.len
  exact ⟨by omega, by omega, by rw [h3]; simp, by rw [h3]; simp⟩
theorem PrP.first {az bz : List (List (List Int))} (wA : AdOK az) (wB : AdOK bz) : PrP az bz nd0 := by
  have := wA.pos
  have := wB.pos
  refine ⟨⟨?_, ?_⟩, ⟨?_, ?_⟩, ?_, rfl⟩ <;> simp only [nd0] <;> omega

set_option maxRecDepth 100000 in
set_option maxHeartbeats 800000 in
theorem checkC {w : World} {u v : Value} {m n : Int} {xs ys : List (List (List Int))} (hx : AdvV w u m xs) (hy : AdvV w v n ys) (hxm : movesN xs ≤ 1000000000) (hym : movesN ys ≤ 1000000000) :
    Calls Tryz.prog 29 #[u, v] w fun e w' => e = .returned (.int .i64 (eqErr m n xs ys)) ∧ Below w.heap.size w w' := by
  obtain ⟨xa, xc, hu⟩ := advShape' hx
  obtain ⟨ya, yc, hv⟩ := advShape' hy
  subst hu hv
  obtain ⟨W1, hW1⟩ : ∃ W1, W1 = (w.alloc (.cells #[.int .i64 m, .slice xa xs.length xc] 24)).alloc (.cells #[.int .i64 n, .slice ya ys.length yc] 24) := ⟨_, rfl⟩
  obtain ⟨hb1, ⟨p0, p1⟩, ⟨q0, q1⟩, _, _⟩ := boxAdv2 hW1
  have HX := Lib.hid (checkA (hx.keep hb1) hxm)
  have HY := Lib.hid (fun W (hb : Below W1.heap.size W1 W) => checkA ((hy.keep hb1).keep hb) hym)
  have hK := Lib.hid (fun W (hb : Below W1.heap.size W1 W) => And.intro (cell_kept hb p0) (And.intro (cell_kept hb p1) (And.intro (cell_kept hb q0) (cell_kept hb q1))))
  obtain ⟨E, hE⟩ : ∃ E, chkA m xs = E := ⟨_, rfl⟩
  obtain ⟨F, hF⟩ : ∃ F, chkA n ys = F := ⟨_, rfl⟩
  have hr : eqErr m n xs ys = if E ≠ 0 then E else if F ≠ 0 then F else if m ≠ n then 22 else 0 := by rw [eqErr, hE, hF]
  rw [hE] at HX
  rw [hF] at HY
  rw [hr]
  clear hr hE hF hx hy p0 p1 q0 q1
  by_cases h1 : E = 0
  · subst h1
    rw [if_neg (fun h => h rfl)]
    by_cases h2 : F = 0
    · subst h2
      rw [if_neg (fun h => h rfl)]
      by_cases h3 : m = n
      · subst h3
        rw [if_neg (fun h => h rfl)]
        have hmm : (m != m) = false := by simp
        go_enter Tryz.func29, Tryz.ntmps29
        go_wp2_with fail
        rw [← hW1]
        refine HX.out.mono ?_
        rintro e W2 ⟨rfl, hb2⟩
        obtain ⟨_, _, k2, k3⟩ := hK.out W2 hb2
        go_wp2_with fail
        clear k2 k3
        refine (HY.out W2 hb2).mono ?_
        rintro e W3 ⟨rfl, hb3⟩
        have B3 := btt hb2 hb3
        obtain ⟨k0, k1, k2, k3⟩ := hK.out W3 B3
        go_wp2
        go_ret
        exact ⟨rfl, bt hb1 B3 hb1.size⟩
      · rw [if_pos h3]
        have hmm : (m != n) = true := by simp [h3]
        go_enter Tryz.func29, Tryz.ntmps29
        go_wp2_with fail
        rw [← hW1]
        refine HX.out.mono ?_
        rintro e W2 ⟨rfl, hb2⟩
        obtain ⟨_, _, k2, k3⟩ := hK.out W2 hb2
        go_wp2_with fail
        clear k2 k3
        refine (HY.out W2 hb2).mono ?_
        rintro e W3 ⟨rfl, hb3⟩
        have B3 := btt hb2 hb3
        obtain ⟨k0, k1, k2, k3⟩ := hK.out W3 B3
        go_wp2
        go_ret
        exact ⟨rfl, bt hb1 B3 hb1.size⟩
    · rw [if_pos h2]
      have hf : (F != 0) = true := by simp [h2]
      have hf2 : (F == 0) = false := by simp [h2]
      go_enter Tryz.func29, Tryz.ntmps29
      go_wp2_with fail
      rw [← hW1]
      refine HX.out.mono ?_
      rintro e W2 ⟨rfl, hb2⟩
      obtain ⟨_, _, k2, k3⟩ := hK.out W2 hb2
      go_wp2_with fail
      clear k2 k3
      refine (HY.out W2 hb2).mono ?_
      rintro e W3 ⟨rfl, hb3⟩
      have B3 := btt hb2 hb3
      go_wp2
      go_ret
      exact ⟨rfl, bt hb1 B3 hb1.size⟩
  · rw [if_pos h1]
    have hf : (E != 0) = true := by simp [h1]
    have hf2 : (E == 0) = false := by simp [h1]
    go_enter Tryz.func29, Tryz.ntmps29
    go_wp2_with fail
    rw [← hW1]
    refine HX.out.mono ?_
    rintro e W2 ⟨rfl, hb2⟩
    go_wp2
    go_ret
    exact ⟨rfl, bt hb1 hb2 hb1.size⟩
/-- What paired hands back: a builder, whose function of moves has four boxes. -/
def PairOut (w : World) (K : Nat) (n n' : Int) (sa sb : Value) (e : Ending) (w' : World) : Prop :=
  ∃ bF bA bB bK, e = .returned (.agg #[.int .i64 n, .int .i64 0, .int .i64 0, .string ⟨#[]⟩, .func (.func 64) #[] #[.pointer (some ⟨bF, 0, none⟩), .pointer (some ⟨bA, 0, none⟩), .pointer (some ⟨bB, 0, none⟩), .pointer (some ⟨bK, 0, none⟩)]]) ∧
    w'.heap[bF]? = some (.cells #[.func (.func 63) #[] #[]] 104) ∧ w'.heap[bK]? = some (.cells #[.func (.func K) #[] #[]] 67) ∧
    w'.heap[bA]? = some (.cells #[.int .i64 n, sa] 24) ∧ w'.heap[bB]? = some (.cells #[.int .i64 n', sb] 24) ∧ Below w.heap.size w w'
set_option maxRecDepth 100000 in
set_option maxHeartbeats 800000 in
theorem pairedC {w : World} {K : Nat} {n n' : Int} {aa ba : Option Addr} {al bl ac bc : Nat} :
    Calls Tryz.prog 30 #[.agg #[.int .i64 n, .slice aa al ac], .agg #[.int .i64 n', .slice ba bl bc], .func (.func K) #[] #[]] w (PairOut w K n n' (.slice aa al ac) (.slice ba bl bc)) := by
  go_enter Tryz.func30, Tryz.ntmps30
  go_wp2
  obtain ⟨Wf, hWf⟩ : ∃ Wf, Wf = ((((w.alloc (.cells #[.int .i64 n, .slice aa al ac] 24)).alloc (.cells #[.int .i64 n', .slice ba bl bc] 24)).alloc (.cells #[.func (.func K) #[] #[]] 67)).alloc
    (.cells #[.int .i64 n, .int .i64 0, .int .i64 0, .string ⟨#[]⟩, .func (.func 64) #[] #[.pointer (some ⟨w.heap.size + 1 + 1 + 1 + 1, 0, none⟩), .pointer (some ⟨w.heap.size, 0, none⟩), .pointer (some ⟨w.heap.size + 1, 0, none⟩), .pointer (some ⟨w.heap.size + 1 + 1, 0, none⟩)]] 65)).alloc (.cells #[.func (.func 63) #[] #[]] 104) := ⟨_, rfl⟩
  have hbf : Below w.heap.size w Wf := by
    rw [hWf]
    exact (((((Below.refl _ w).alloc (Nat.le_refl _) _).alloc (by simp) _).alloc (by first | (simp; done) | (simp; omega)) _).alloc (by first | (simp; done) | (simp; omega)) _).alloc (by first | (simp; done) | (simp; omega)) _
  have nA : Wf.heap[w.heap.size]? = some (.cells #[.int .i64 n, .slice aa al ac] 24) := by
    rw [hWf]
    exact (Below.heap_alloc _ _ _ (by first | (simp; done) | (simp; omega))).trans ((Below.heap_alloc _ _ _ (by first | (simp; done) | (simp; omega))).trans ((Below.heap_alloc _ _ _ (by first | (simp; done) | (simp; omega))).trans ((Below.heap_alloc _ _ _ (by simp)).trans (heap_alloc_new w _))))
  have nB : Wf.heap[w.heap.size + 1]? = some (.cells #[.int .i64 n', .slice ba bl bc] 24) := by
    rw [hWf]
    have := heap_alloc_new (w.alloc (.cells #[.int .i64 n, .slice aa al ac] 24)) (.cells #[.int .i64 n', .slice ba bl bc] 24)
    rw [World.size_alloc] at this
    exact (Below.heap_alloc _ _ _ (by first | (simp; done) | (simp; omega))).trans ((Below.heap_alloc _ _ _ (by first | (simp; done) | (simp; omega))).trans ((Below.heap_alloc _ _ _ (by simp)).trans this))
  have nK : Wf.heap[w.heap.size + 1 + 1]? = some (.cells #[.func (.func K) #[] #[]] 67) := by
    rw [hWf]
    have := heap_alloc_new ((w.alloc (.cells #[.int .i64 n, .slice aa al ac] 24)).alloc (.cells #[.int .i64 n', .slice ba bl bc] 24)) (.cells #[.func (.func K) #[] #[]] 67)
    rw [World.size_alloc, World.size_alloc] at this
    exact (Below.heap_alloc _ _ _ (by first | (simp; done) | (simp; omega))).trans ((Below.heap_alloc _ _ _ (by simp)).trans this)
  have nF : Wf.heap[w.heap.size + 1 + 1 + 1 + 1]? = some (.cells #[.func (.func 63) #[] #[]] 104) := by
    rw [hWf]
    have := heap_alloc_new ((((w.alloc (.cells #[.int .i64 n, .slice aa al ac] 24)).alloc (.cells #[.int .i64 n', .slice ba bl bc] 24)).alloc (.cells #[.func (.func K) #[] #[]] 67)).alloc
      (.cells #[.int .i64 n, .int .i64 0, .int .i64 0, .string ⟨#[]⟩, .func (.func 64) #[] #[.pointer (some ⟨w.heap.size + 1 + 1 + 1 + 1, 0, none⟩), .pointer (some ⟨w.heap.size, 0, none⟩), .pointer (some ⟨w.heap.size + 1, 0, none⟩), .pointer (some ⟨w.heap.size + 1 + 1, 0, none⟩)]] 65)) (.cells #[.func (.func 63) #[] #[]] 104)
    simpa only [World.size_alloc] using this
  refine bodyPost_ret (v := .agg #[.int .i64 n, .int .i64 0, .int .i64 0, .string ⟨#[]⟩, .func (.func 64) #[] #[.pointer (some ⟨w.heap.size + 1 + 1 + 1 + 1, 0, none⟩), .pointer (some ⟨w.heap.size, 0, none⟩), .pointer (some ⟨w.heap.size + 1, 0, none⟩), .pointer (some ⟨w.heap.size + 1 + 1, 0, none⟩)]]) (by simp [results, Tryz.results30, go_sem]) rfl ?_
  rw [← hWf]
  exact ⟨_, _, _, _, rfl, nF, nK, nA, nB, hbf⟩
end Go.Proofs.YtiiiegflobihjaaGreat

/- combine.Or. -/
namespace Go.Proofs.YtiiiegflobihjaaGreat
open Go.RowKit

set_option maxRecDepth 100000 in
set_option maxHeartbeats 1600000 in
theorem orGood {w : World} {u v : Value} {m n : Int} {xs ys : List (List (List Int))} (hx : AdvV w u m xs) (hy : AdvV w v n ys) (hxm : movesN xs ≤ 1000000000) (hym : movesN ys ≤ 1000000000) (h0 : eqErr m n xs ys = 0) (wA : AdOK xs) (wB : AdOK ys) :
    Calls Tryz.prog 10 #[u, v] w (BdOut w m (prA false xs ys)) := by
  obtain ⟨xa, xc, hu⟩ := advShape' hx
  obtain ⟨ya, yc, hv⟩ := advShape' hy
  subst hu hv
  obtain ⟨W1, hW1⟩ : ∃ W1, W1 = ((w.alloc (.cells #[.int .i64 m, .slice xa xs.length xc] 24)).alloc (.cells #[.int .i64 n, .slice ya ys.length yc] 24)).alloc (.cells #[.int .i64 0, .slice none 0 0] 24) := ⟨_, rfl⟩
  have hb1 : Below w.heap.size w W1 := by rw [hW1]; exact (((Below.refl _ w).alloc (Nat.le_refl _) _).alloc (by simp) _).alloc (by first | (simp; done) | (simp; omega)) _
  have kX : W1.heap[w.heap.size]? = some (.cells #[.int .i64 m, .slice xa xs.length xc] 24) := by
    rw [hW1]; exact (Below.heap_alloc _ _ _ (by first | (simp; done) | (simp; omega))).trans ((Below.heap_alloc _ _ _ (by simp)).trans (heap_alloc_new w _))
  have kY : W1.heap[w.heap.size + 1]? = some (.cells #[.int .i64 n, .slice ya ys.length yc] 24) := by
    rw [hW1]
    have := heap_alloc_new (w.alloc (.cells #[.int .i64 m, .slice xa xs.length xc] 24)) (.cells #[.int .i64 n, .slice ya ys.length yc] 24)
    rw [World.size_alloc] at this
    exact (Below.heap_alloc _ _ _ (by simp)).trans this
  have kR : W1.heap[w.heap.size + 1 + 1]? = some (.cells #[.int .i64 0, .slice none 0 0] 24) := by
    rw [hW1]
    have := heap_alloc_new ((w.alloc (.cells #[.int .i64 m, .slice xa xs.length xc] 24)).alloc (.cells #[.int .i64 n, .slice ya ys.length yc] 24)) (.cells #[.int .i64 0, .slice none 0 0] 24)
    rwa [World.size_alloc, World.size_alloc] at this
  have HC := Lib.hid (checkC (hx.keep hb1) (hy.keep hb1) hxm hym)
  rw [h0] at HC
  have HX := Lib.hid (fun W (hb : Below W1.heap.size W1 W) => (hx.keep hb1).keep hb)
  have HY := Lib.hid (fun W (hb : Below W1.heap.size W1 W) => (hy.keep hb1).keep hb)
  have hK := Lib.hid (fun W (hb : Below W1.heap.size W1 W) => And.intro (box2 ((hb.block _ (Array.getElem?_eq_some_iff.1 kX).1).trans kX)) (And.intro (box2 ((hb.block _ (Array.getElem?_eq_some_iff.1 kY).1).trans kY)) ((hb.block _ (Array.getElem?_eq_some_iff.1 kR).1).trans kR)))
  have hR := prA_eq false xs ys
  obtain ⟨R, hRR⟩ : ∃ R, prA false xs ys = R := ⟨_, rfl⟩
  rw [hRR] at hR ⊢
  replace hR := Lib.hid hR
  replace hRR := Lib.hid hRR
  clear hx hy kX kY kR h0
  go_enter Tryz.func10, Tryz.ntmps10
  go_wp2_with fail
  rw [← hW1]
  replace hW1 := Lib.hid hW1
  refine HC.out.mono ?_
  rintro e W2 ⟨rfl, hb2⟩
  obtain ⟨⟨a0, a1⟩, ⟨b0, b1⟩, _⟩ := hK.out W2 hb2
  go_wp2_with fail
  clear a0 a1 b0 b1
  refine pairedC.mono ?_
  rintro e W3 ⟨bF, bA, bB, bK, rfl, kF, kK, kA, kB, hb3⟩
  have B3 := btt hb2 hb3
  have HB : Calls Tryz.prog 32 #[.agg #[.int .i64 m, .int .i64 0, .int .i64 0, .string ⟨#[]⟩, .func (.func 64) #[] #[.pointer (some ⟨bF, 0, none⟩), .pointer (some ⟨bA, 0, none⟩), .pointer (some ⟨bB, 0, none⟩), .pointer (some ⟨bK, 0, none⟩)]]] W3 (BdOut W3 m R) :=
    build1 (fs := nd0) (step := prSt false xs ys) (P := PrP xs ys) (fun W x hb hP => pairedMvOr ((hb.block _ (Array.getElem?_eq_some_iff.1 kF).1).trans kF) ((hb.block _ (Array.getElem?_eq_some_iff.1 kK).1).trans kK) ((hb.block _ (Array.getElem?_eq_some_iff.1 kA).1).trans kA) ((hb.block _ (Array.getElem?_eq_some_iff.1 kB).1).trans kB) (HX.out W (btt B3 hb)) (HY.out W (btt B3 hb)) wA wB hP)
      (PrP.first wA wB) (fun x hP => (prSt_ok wA wB hP).1) (fun x hP => hP.sm wA wB) (fun x hP => Nat.le_trans (prSt_ok wA wB hP).2 (by decide)) hR.out
  replace HB := Lib.hid HB
  clear kF kK kA kB
  go_wp2_with fail
  refine HB.out.mono ?_
  intro e W4 hO
  have hbw3 := bt hb1 B3 hb1.size
  cases R with
  | none =>
    obtain ⟨rfl, hb4⟩ := hO
    have B4 := btt B3 hb4
    obtain ⟨_, _, kR4⟩ := hK.out W4 B4
    obtain ⟨y0, y1⟩ := box2 kR4
    have yf0 := row_free kR4 0
    have yf1 := row_free kR4 1
    have z0 : W4.setCell ⟨w.heap.size + 1 + 1, 0, none⟩ (.int .i64 0) = W4 := setSame y0
    have z1 : W4.setCell ⟨w.heap.size + 1 + 1, 1, none⟩ (.slice none 0 0) = W4 := setSame y1
    go_wp2
    refine bodyPost_ret (v := .tuple #[.agg #[.int .i64 0, .slice none 0 0], .int .i64 17]) (by simp [results, Tryz.results10, go_sem, y0, y1]) rfl ?_
    exact BdOut.no (bt hbw3 hb4 hbw3.size)
  | some ss =>
    obtain ⟨uo, rfl, hA, hb4⟩ := hO
    have B4 := btt B3 hb4
    obtain ⟨_, _, kR4⟩ := hK.out W4 B4
    have hA' := hA
    obtain ⟨sv, rfl, hrow, hl1, hl2⟩ := hA'
    obtain ⟨sva, svc, hsv⟩ := hrow.shape
    subst hsv
    obtain ⟨y0, y1⟩ := box2 kR4
    have yf := row_free kR4
    have hr1 := heap_setCell_same W4 (w.heap.size + 1 + 1) 0 _ _ (.int .i64 m) kR4
    have hr2 := two_setCell (u := .slice sva ss.length svc) hr1
    have hx2 := (KeepX.setCell (p := ⟨w.heap.size + 1 + 1, 0, none⟩) kR4 (.int .i64 m)).trans (KeepX.setCell (p := ⟨w.heap.size + 1 + 1, 1, none⟩) hr1 (.slice sva ss.length svc))
    have hbw4 := bt hbw3 hb4 hbw3.size
    have hbe := (hbw4.setCell (p := ⟨w.heap.size + 1 + 1, 0, none⟩) (by show w.heap.size ≤ w.heap.size + 1 + 1; omega) (.int .i64 m)).setCell (p := ⟨w.heap.size + 1 + 1, 1, none⟩) (by show w.heap.size ≤ w.heap.size + 1 + 1; omega) (.slice sva ss.length svc)
    obtain ⟨z0, z1⟩ := box2 hr2
    have hfin := hA.other hx2
    replace hfin := Lib.hid hfin
    clear hr1 hr2 hx2 hrow hA kR4
    go_wp2
    obtain ⟨W8, hW8⟩ : ∃ W8, W8 = (W4.setCell ⟨w.heap.size + 1 + 1, 0, none⟩ (.int .i64 m)).setCell ⟨w.heap.size + 1 + 1, 1, none⟩ (.slice sva ss.length svc) := ⟨_, rfl⟩
    rw [← hW8] at z0 z1 hfin hbe ⊢
    clear hW8
    refine bodyPost_ret (v := .tuple #[.agg #[.int .i64 m, .slice sva ss.length svc], .int .i64 0]) (by simp [results, Tryz.results10, go_sem, z0, z1]) rfl ?_
    exact BdOut.yes hfin.out hbe
end Go.Proofs.YtiiiegflobihjaaGreat

/- append of a whole slice of structs of ints onto a row that a call made. -/
namespace Go.Proofs.YtiiiegflobihjaaGreat
open Go.RowKit

theorem chunks_eq {α : Type} {k : Nat} : ∀ (n : Nat) (a b : List α), a.length = n * k → b.length = n * k → (∀ j, j < n → (a.drop (j * k)).take k = (b.drop (j * k)).take k) → a = b
  | 0, a, b, ha, hb, _ => by
    rw [Nat.zero_mul] at ha hb
    rw [List.length_eq_zero_iff.1 ha, List.length_eq_zero_iff.1 hb]
  | n + 1, a, b, ha, hb, h => by
    rw [Nat.succ_mul] at ha hb
    rw [← List.take_append_drop k a, ← List.take_append_drop k b]
    have h0 := h 0 (by omega)
    rw [Nat.zero_mul, List.drop_zero, List.drop_zero] at h0
    rw [h0, chunks_eq (k := k) n (a.drop k) (b.drop k) (by rw [List.length_drop]; omega) (by rw [List.length_drop]; omega) fun j hj => ?_]
    have := h (j + 1) (by omega)
    rw [Nat.succ_mul, Nat.add_comm (j * k) k] at this
    rwa [List.drop_drop, List.drop_drop]
theorem OwX.lens {E : TypeId} {k : Nat} {w : World} {B n : Nat} {v : Value} {xs : List (List Int)} (h : OwX E k EI w B v n xs) : ∀ x ∈ xs, x.length = k := fun x hx => by
  obtain ⟨vs, h1, h2, h3, h4⟩ := h
  obtain ⟨j, hj, rfl⟩ := List.getElem_of_mem hx
  have he : (vs.drop (j * k)).take k = xs[j].map (Value.int .i64) := h4 j _ (List.getElem?_eq_getElem hj)
  have hvl : vs.length = n * k := h1.1
  have hle : j * k + k ≤ n * k := by rw [← Nat.succ_mul]; exact Nat.mul_le_mul_right _ (by omega)
  have := congrArg List.length he
  rw [List.length_take, List.length_drop, List.length_map] at this
  omega
theorem OwX.flatV {E : TypeId} {k : Nat} {w : World} {B n : Nat} {v : Value} {xs : List (List Int)} (h : OwX E k EI w B v n xs) : w.ownsRow B E k v n (xs.flatten.map (Value.int .i64)) := by
  have hl := h.lens
  obtain ⟨vs, h1, h2, h3, h4⟩ := h
  have hvl : vs.length = n * k := h1.1
  have : vs = xs.flatten.map (Value.int .i64) := by
    refine chunks_eq n _ _ hvl (by rw [List.length_map, flat_len hl, h2]) fun j hj => ?_
    have hx : xs[j]? = some xs[j] := List.getElem?_eq_getElem (by omega)
    have he : (vs.drop (j * k)).take k = xs[j].map (Value.int .i64) := h4 j _ hx
    rw [he, ← List.map_drop, ← List.map_take, flat_get hl hx]
  rw [← this]; exact h1
theorem run_appXs {P : Program} {T E ty : TypeId} {z : Value} {k bytes : Nat} (hE : ElemK P T E z k bytes) (hby : bytes ≤ 128) (hk : 0 < k) {w : World} {B n : Nat} {v : Value} {xs ys : List (List Int)}
    (hown : OwX E k EI w B v n xs) {ya : Option Addr} {yc : Nat} (hy : KS k w (.slice ya ys.length yc) ys) (hz : ya = none → yc = 0) (hn : n + ys.length ≤ 1000000) (hB : B ≤ w.heap.size) :
    ∃ v' w', (Builtin.append_ #[T, T] ty #[v, .slice ya ys.length yc]).run P w = .ok v' w' ∧ OwX E k EI w' B v' (n + ys.length) (xs ++ ys) ∧ w.grownBy w' v.ownBlock ∧ Below B w w' ∧ KeepX E w w' := by
  obtain ⟨i0, hi, hz0, hz1, hz2⟩ := info_parts hE.2.1
  have hfl := hown.flatV
  have hlx := hown.lens
  have hxn := hown.length
  obtain ⟨a', c', b, off, he, ha, hc, _⟩ := hy
  injection he with he1 he2 he3
  subst he1 he3
  have hly := KS.lens hc
  have hlens : ∀ x ∈ xs ++ ys, x.length = k := fun x hx => by
    rcases List.mem_append.1 hx with h | h
    · exact hlx x h
    · exact hly x h
  cases ya with
  | none =>
    obtain rfl := hz rfl
    have h0 : ys.length = 0 := by
      rcases Nat.eq_zero_or_pos ys.length with h | h
      · exact h
      · cases ha h
    obtain rfl := List.length_eq_zero_iff.1 h0
    exact ⟨v, w, run_append_owned_none (P := P) (w := w) B T ty E i0 k hE.1 hi v n _ hfl, by rw [List.append_nil]; exact hown, ⟨rfl, rfl, rfl, Nat.le_refl _, fun _ _ _ => rfl⟩, Below.refl _ _, KeepX.below (Below.refl _ _)⟩
  | some ad =>
    have hnews : ∀ j u, (ys.flatten.map (Value.int .i64))[j]? = some u → w.cell? (ad.add j) = some u := fun j u hj => by
      have hpos : 0 < ys.length := by
        rcases Nat.eq_zero_or_pos ys.length with h | h
        · rw [List.length_eq_zero_iff.1 h] at hj; simp at hj
        · exact h
      have := ha hpos
      injection this with this
      subst this
      rw [Addr.add_lit]
      exact KS.flat hc j u hj
    have hone : ∀ u ∈ ys.flatten.map (Value.int .i64), u.oneCell' = true := fun u hu => by
      obtain ⟨i, _, rfl⟩ := List.mem_map.1 hu; rfl
    have hbd : (n + ys.length) * bytes ≤ 140737488355328 := by
      have : (n + ys.length) * bytes ≤ 1000000 * 128 := Nat.mul_le_mul hn hby
      omega
    obtain ⟨v', w', hr, h1, hg, _, _⟩ := run_append_own_at (P := P) w B T ty E i0 z k bytes hE.1 hi hz0 hz1 hz2 hE.2.2 hk v n _ hfl ad ys.length yc (ys.flatten.map (Value.int .i64)) (by rw [List.length_map, flat_len hly]) hnews hone (by unfold maxLen; omega) hbd hB
    refine ⟨v', w', hr, OwX.ofFlat (by rw [List.flatten_append, List.map_append]; exact h1) hlens (by rw [List.length_append, hxn]), hg, (Below.refl B w).grown hg hB (fun k hk => (hfl.lt k hk).1), KeepX.own hfl hg⟩
/-- At the list of a plain region's operations. -/
theorem wpList_appXs {P : Program} {T E : TypeId} {z : Value} {k bytes : Nat} (hE : ElemK P T E z k bytes) (hby : bytes ≤ 128) (hk : 0 < k) {w : World} {ops : Array Oper} {rest : List Oper} {o : Oper} {a : Act} {Q : Exit → Act → World → Prop} (hgd : o.guard = none) (s y : Operand)
    (ho : o.op = .call { callee := .builtin .append, args := #[s, y], argTypes := #[T, T] }) {B n : Nat} {v : Value} {xs ys : List (List Int)} (hs : a.eval s = v)
    (hown : OwX E k EI w B v n xs) {ya : Option Addr} {yc m : Nat} (hx : a.eval y = .slice ya m yc) (hm : m = ys.length) (hy : KS k w (.slice ya ys.length yc) ys) (hz : ya = none → yc = 0) (hn : n + ys.length ≤ 1000000) (hB : B ≤ w.heap.size)
    (h : ∀ v' w', OwX E k EI w' B v' (n + ys.length) (xs ++ ys) → w.grownBy w' v.ownBlock → Below B w w' → KeepX E w w' → wpList P ops Q rest (a.put o.dst v') w') : wpList P ops Q (o :: rest) a w := by
  subst hm
  refine wpList_plain hgd fun K hK => ?_
  obtain ⟨v', w', hr, h2, h3, h4, h5⟩ := run_appXs (P := P) (ty := o.type) hE hby hk hown hy hz hn hB
  unfold Oper.wp execOp
  simp only [ho, resolve, invoke, builtin, Sem.run_bind, Sem.run_pure, Result.andThen_ok, List.map_toArray, List.map_cons, List.map_nil, hs, hx, hr]
  exact hK _ _ (h v' w' h2 h3 h4 h5)
theorem OwX.cap {α : Type} {E : TypeId} {k : Nat} {El : World → List Value → α → Prop} {w : World} {B n m c : Nat} {a : Option Addr} {xs : List α} (h : OwX E k El w B (.slice a m c) n xs) : n ≤ c := by
  obtain ⟨vs, h1, _⟩ := h
  rcases h1.2 with ⟨he, h0⟩ | ⟨g, cap, cur, he, _, _, hc, _⟩
  · omega
  · injection he with _ _ e3
    subst e3; exact hc
theorem OwX.nilc {α : Type} {E : TypeId} {k : Nat} {El : World → List Value → α → Prop} {w : World} {B n m c : Nat} {a : Option Addr} {xs : List α} (h : OwX E k El w B (.slice a m c) n xs) : a = none → c = 0 ∧ xs.length = 0 := fun ha => by
  obtain ⟨vs, h1, h2, _⟩ := h
  rcases h1.2 with ⟨he, h0⟩ | ⟨g, cap, cur, he, _⟩
  · injection he with _ e2 e3
    exact ⟨e3, by omega⟩
  · injection he with e1 _ _
    rw [ha] at e1; cases e1
/-- The first elements; the others. -/
theorem KS.front {k : Nat} {w : World} {a : Option Addr} {c : Nat} {xs : List (List Int)} (h : KS k w (.slice a xs.length c) xs) (m : Nat) (hm : m ≤ xs.length) : KS k w (.slice a (xs.take m).length c) (xs.take m) := by
  obtain ⟨a', c', b, off, he, ha, hc, hl⟩ := h
  injection he with he1 _ he3
  subst he1 he3
  refine ⟨a, c, b, off, rfl, fun h => ha (by rw [List.length_take] at h; omega), fun j hj => ?_, by rw [List.length_take]; omega⟩
  rw [List.length_take] at hj
  have := hc j (by omega)
  rwa [show (xs.take m).getD j [] = xs.getD j [] by rw [List.getD_eq_getElem?_getD, List.getElem?_take, if_pos (by omega), ← List.getD_eq_getElem?_getD]]
theorem KS.back {k : Nat} {w : World} {b off c : Nat} {xs : List (List Int)} (h : KS k w (.slice (some ⟨b, off, none⟩) xs.length c) xs) (m : Nat) (hm : m ≤ xs.length) (c' : Nat) (ad : Option Addr) (had : m < xs.length → ad = some ⟨b, off + m * k, none⟩) : KS k w (.slice ad (xs.drop m).length c') (xs.drop m) := by
  obtain ⟨a', c1, b', off', he, ha, hc, hl⟩ := h
  injection he with he1 _ he3
  refine ⟨ad, c', b, off + m * k, rfl, fun h => had (by rw [List.length_drop] at h; omega), fun j hj => ?_, by rw [List.length_drop]; omega⟩
  rw [List.length_drop] at hj
  have h2 := ha (by omega)
  rw [← he1] at h2
  injection h2 with h2
  injection h2 with hb ho
  subst hb ho
  have := hc (m + j) (by omega)
  rw [show (xs.drop m).getD j [] = xs.getD (m + j) [] by rw [List.getD_eq_getElem?_getD, List.getElem?_drop, ← List.getD_eq_getElem?_getD], show off + m * k + j * k = off + (m + j) * k by rw [Nat.add_mul]; omega]
  exact this
/-- What slicing from the front leaves. -/
theorem OwX.rest {E : TypeId} {k : Nat} {w : World} {B n c : Nat} {a : Option Addr} {xs : List (List Int)} (h : OwX E k EI w B (.slice a n c) n xs) (hn : n ≤ 2199023255552) {m : Nat} (hm : m ≤ n) :
    KS k w (.slice (if c = m then a else a.map (fun p : Addr => p.add (m * k))) (xs.drop m).length (c - m)) (xs.drop m) ∧ ((if c = m then a else a.map (fun p : Addr => p.add (m * k))) = none → c - m = 0) := by
  have hc := h.cap
  have hz := h.nilc
  have hl := h.length
  subst hl
  have hks := h.ks hn
  constructor
  · cases a with
    | none =>
      obtain ⟨_, h0⟩ := hz rfl
      obtain rfl := List.length_eq_zero_iff.1 h0
      rw [List.drop_nil]
      exact KS.nil _ _ _ _
    | some ad =>
      obtain ⟨a', c', b, off, he, ha, hcs, _⟩ := id hks
      injection he with he1 _ he3
      rcases Nat.eq_zero_or_pos xs.length with h0 | h0
      · obtain rfl := List.length_eq_zero_iff.1 h0
        rw [List.drop_nil]
        exact KS.nil _ _ _ _
      · have := ha h0
        rw [← he1] at this
        injection this with this
        subst this
        refine hks.back m hm _ _ fun hlt => ?_
        rw [if_neg (by omega)]
        show some (Addr.add _ _) = _
        rw [Addr.add_lit]
  · intro h1
    cases a with
    | none => obtain ⟨h2, _⟩ := hz rfl; omega
    | some ad =>
      split at h1
      · cases h1
      · cases h1
end Go.Proofs.YtiiiegflobihjaaGreat

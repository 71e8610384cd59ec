/- Texts of this claim, put together: E6 U0 CK CO DA. -/
import Derived.Test.YtiiiegflobihjaaGreatKChainsj
import Derived.Test.YtiiiegflobihjaaGreatKChainsk
import Derived.Test.YtiiiegflobihjaaGreatKChainsp
import Derived.Test.YtiiiegflobihjaaGreatKChainsq
import Derived.Laws.EntriesVeiled
import Derived.Test.YtiiiegflobihjaaGreatKChainsm

/- Is and Equal. -/
namespace Go.Proofs.YtiiiegflobihjaaGreat
open Go.RowKit Go.ChangeMaps Go.MapKept

/-- The answer of Equal. -/
def eqErr (m n : Int) (xs ys : List (List (List Int))) : Int := if chkA m xs ≠ 0 then chkA m xs else if chkA n ys ≠ 0 then chkA n ys else if m ≠ n then 22 else 0
end Go.Proofs.YtiiiegflobihjaaGreat

/- Two systems side by side: words, search and form of the one are those of the other; classes of states are classes of languages. Plain lists. -/
namespace Go.Proofs.YtiiiegflobihjaaGreat

theorem ascL_of {n : Int} {ss : List (List (List Int))} (h : chkA n ss = 0) : ∀ s ∈ ss, AscL (s.map rdOf) := fun s hs => by
  obtain ⟨_, _, h3, _⟩ := chkA_facts h
  have h4 := ssGo_zero h3 s hs
  unfold stErr at h4
  by_cases he : s.length = 0
  · rw [List.length_eq_zero_iff.1 he]; exact List.Pairwise.nil
  rw [if_neg he] at h4
  have hadj : ∀ i, 0 < i → i < s.length → cmpL (rdOf (s.getD (i - 1) [])) (rdOf (s.getD i [])) < 0 := fun i h0 hi => by
    obtain ⟨_, _, c3, _, _⟩ := mvErr_zero (mvGo_zero h4 i (by omega) (by omega))
    have := c3 h0
    unfold rdOf; omega
  unfold AscL
  rw [List.pairwise_iff_getElem]
  intro i j hi hj hij
  rw [List.length_map] at hi hj
  rw [List.getElem_map, List.getElem_map]
  obtain ⟨d, rfl⟩ : ∃ d, j = i + 1 + d := ⟨j - i - 1, by omega⟩
  induction d with
  | zero =>
    have := hadj (i + 1) (by omega) hj
    rw [Nat.add_sub_cancel, getD_eq hi, getD_eq hj] at this
    exact this
  | succ d ih =>
    have h1 := ih (by rw [List.length_map]; omega) (by omega) (by omega)
    have h2 := hadj (i + 1 + (d + 1)) (by omega) hj
    rw [show i + 1 + (d + 1) - 1 = i + 1 + d by omega, getD_eq (by omega : i + 1 + d < s.length), getD_eq hj] at h2
    exact cmpL_trans _ _ _ h1 h2
/-- Two lists, element by element. -/
def All2 {α β : Type} (R : α → β → Prop) : List α → List β → Prop
  | [], [] => True
  | a :: l, b :: m => R a b ∧ All2 R l m
  | _, _ => False
section
variable {α β : Type} {R : α → β → Prop}
theorem All2.len : ∀ {l : List α} {m : List β}, All2 R l m → l.length = m.length
  | [], [], _ => rfl
  | _ :: _, _ :: _, h => by rw [List.length_cons, List.length_cons, All2.len h.2]
  | [], _ :: _, h => h.elim
  | _ :: _, [], h => h.elim
theorem All2.imp {R' : α → β → Prop} (hi : ∀ a b, R a b → R' a b) : ∀ {l : List α} {m : List β}, All2 R l m → All2 R' l m
  | [], [], _ => trivial
  | _ :: _, _ :: _, h => ⟨hi _ _ h.1, All2.imp hi h.2⟩
  | [], _ :: _, h => h.elim
  | _ :: _, [], h => h.elim
end

section
variable {ρ : Nat → Nat → Prop} {kf kf' : Nat → Nat} {ss tt : List (List (List Int))}
theorem ClsOK.len8 (h : ClsOK ss) : ∀ s ∈ ss, ∀ m ∈ s, m.length = 8 := fun s hs m hm => ((h.2.2.2 s hs).2 m hm).2.1
end

/-- A word is permitted from a state on. -/
def alw (ss : List (List (List Int))) : List (List Int) → Nat → Prop
  | [], _ => True
  | r :: w, s => 0 ≤ toI r (ss.getD s []) ∧ alw ss w (toI r (ss.getD s [])).toNat
section
variable {ρ : Nat → Nat → Prop} {ss tt : List (List (List Int))}
theorem alw_after : ∀ {w : List (List Int)} {s : Nat}, alw ss w s ↔ 0 ≤ afterI ss w s
  | [], s => by simp [alw, afterI]
  | r :: w, s => by
    rw [alw, afterI]
    by_cases h : toI r (ss.getD s []) < 0
    · rw [if_pos h]
      exact ⟨fun h' => absurd h'.1 (by omega), fun h' => absurd h' (by decide)⟩
    · rw [if_neg h, alw_after (w := w)]
      exact ⟨fun h' => h'.2, fun h' => ⟨by omega, h'⟩⟩
theorem toI_mem {m : List Int} : ∀ {x : List (List Int)}, AscL (x.map rdOf) → m ∈ x → toI (rdOf m) x = m.getD 7 0
  | [], _, h => by cases h
  | a :: x, ha, h => by
    rw [List.map_cons] at ha
    unfold AscL at ha
    rw [List.pairwise_cons] at ha
    rw [toI]
    rcases List.mem_cons.1 h with rfl | h
    · rw [if_pos rfl]
    · rw [if_neg, toI_mem ha.2 h]
      intro e
      have h1 := ha.1 (rdOf m) (List.mem_map_of_mem h)
      rw [e] at h1
      exact cmpL_asymm _ _ h1 h1
theorem toI_out {r : List Int} : ∀ {x : List (List Int)}, r ∉ x.map rdOf → toI r x = -1
  | [], _ => rfl
  | a :: x, h => by
    rw [List.map_cons, List.mem_cons, not_or] at h
    rw [toI, if_neg (fun e => h.1 e.symm), toI_out h.2]
theorem toI_in {r : List Int} {x : List (List Int)} (h0 : ∀ m ∈ x, 0 ≤ m.getD 7 0) : 0 ≤ toI r x ↔ r ∈ x.map rdOf := by
  constructor
  · intro h
    by_cases hr : r ∈ x.map rdOf
    · exact hr
    · rw [toI_out hr] at h; exact absurd h (by decide)
  · exact toI_self h0
end
end Go.Proofs.YtiiiegflobihjaaGreat

/- combine: check, paired, Or. -/
namespace Go.Proofs.YtiiiegflobihjaaGreat
open Go.RowKit

theorem adOK_of {n : Int} {ss : List (List (List Int))} (h8 : ∀ s ∈ ss, ∀ m ∈ s, m.length = 8) (h : chkA n ss = 0) (hl : ∀ s ∈ ss, s.length ≤ 400) : AdOK ss := by
  have hasc := ascL_of h
  obtain ⟨_, ⟨h1, h2, _⟩, h3, _⟩ := chkA_facts h
  refine ⟨h1, by omega, fun s hs => ?_⟩
  have h4 := ssGo_zero h3 s hs
  unfold stErr at h4
  by_cases he : s.length = 0
  · rw [if_pos he] at h4; cases h4
  rw [if_neg he] at h4
  refine ⟨by omega, hl s hs, hasc s hs, fun m hmm => ?_⟩
  obtain ⟨j, hj, rfl⟩ := List.mem_iff_getElem.1 hmm
  obtain ⟨c1, _, _, c4, c5⟩ := mvErr_zero (mvGo_zero h4 j (by omega) (by omega))
  rw [getD_eq hj] at c1 c4 c5
  exact ⟨h8 s hs _ hmm, c4, c5⟩
theorem toI_pos {ss : List (List (List Int))} (h : AdOK ss) {s : Int} {r : List Int} (hr : r ∈ (ndM ss s).map rdOf) : 0 ≤ ndT ss s r := by
  have hm := ndM_all h s
  rw [ndM] at hr hm
  rw [ndT]
  split at hr
  · cases hr
  · rename_i h0
    rw [if_neg h0] at hm ⊢
    exact toI_self (fun m hmm => (hm m hmm).2.1) hr
/-- What is behind a pair that is met is met. -/
theorem prSt_ok {bt : Bool} {az bz : List (List (List Int))} (wA : AdOK az) (wB : AdOK bz) {x : Nd} (hx : PrP az bz x) : (∀ a ∈ prSt bt az bz x, PrP az bz a.2 ∧ a.1.length = 7) ∧ (prSt bt az bz x).length ≤ 800 := by
  obtain ⟨h1, h2⟩ := prRs_len wA wB hx
  refine ⟨fun a ha => ?_, Nat.le_trans (List.length_filterMap_le _ _) h1⟩
  obtain ⟨r, hr, he⟩ := List.mem_filterMap.1 ha
  unfold prF at he
  split at he
  · injection he with he
    subst he
    refine ⟨⟨ndT_ge wA r, ndT_ge wB r, ?_, rfl⟩, h2 r hr⟩
    have hm := (lets_mem _ _).1 hr
    rw [List.map_append] at hm
    rcases List.mem_append.1 hm with h | h
    · exact .inl (toI_pos wA h)
    · exact .inr (toI_pos wB h)
  · cases he
theorem PrP.sm {az bz : List (List (List Int))} (wA : AdOK az) (wB : AdOK bz) {x : Nd} (hx : PrP az bz x) : SmN x := by
  obtain ⟨h1, h2, _, h3⟩ := hx
  have := wA.len
  have := wB.len
  exact ⟨by omega, by omega, by rw [h3]; simp, by rw [h3]; simp⟩
theorem PrP.first {az bz : List (List (List Int))} (wA : AdOK az) (wB : AdOK bz) : PrP az bz nd0 := by
  have := wA.pos
  have := wB.pos
  refine ⟨⟨?_, ?_⟩, ⟨?_, ?_⟩, ?_, rfl⟩ <;> simp only [nd0] <;> omega

set_option maxRecDepth 100000 in
set_option maxHeartbeats 800000 in
theorem checkC {w : World} {u v : Value} {m n : Int} {xs ys : List (List (List Int))} (hx : AdvV w u m xs) (hy : AdvV w v n ys) (hxm : movesN xs ≤ 1000000000) (hym : movesN ys ≤ 1000000000) :
    Calls Tryz.prog 29 #[u, v] w fun e w' => e = .returned (.int .i64 (eqErr m n xs ys)) ∧ Below w.heap.size w w' := by
  obtain ⟨xa, xc, hu⟩ := advShape' hx
  obtain ⟨ya, yc, hv⟩ := advShape' hy
  subst hu hv
  obtain ⟨W1, hW1⟩ : ∃ W1, W1 = (w.alloc (.cells #[.int .i64 m, .slice xa xs.length xc] 24)).alloc (.cells #[.int .i64 n, .slice ya ys.length yc] 24) := ⟨_, rfl⟩
  obtain ⟨hb1, ⟨p0, p1⟩, ⟨q0, q1⟩, _, _⟩ := boxAdv2 hW1
  have HX := Lib.hid (checkA (hx.keep hb1) hxm)
  have HY := Lib.hid (fun W (hb : Below W1.heap.size W1 W) => checkA ((hy.keep hb1).keep hb) hym)
  have hK := Lib.hid (fun W (hb : Below W1.heap.size W1 W) => And.intro (cell_kept hb p0) (And.intro (cell_kept hb p1) (And.intro (cell_kept hb q0) (cell_kept hb q1))))
  obtain ⟨E, hE⟩ : ∃ E, chkA m xs = E := ⟨_, rfl⟩
  obtain ⟨F, hF⟩ : ∃ F, chkA n ys = F := ⟨_, rfl⟩
  have hr : eqErr m n xs ys = if E ≠ 0 then E else if F ≠ 0 then F else if m ≠ n then 22 else 0 := by rw [eqErr, hE, hF]
  rw [hE] at HX
  rw [hF] at HY
  rw [hr]
  clear hr hE hF hx hy p0 p1 q0 q1
  by_cases h1 : E = 0
  · subst h1
    rw [if_neg (fun h => h rfl)]
    by_cases h2 : F = 0
    · subst h2
      rw [if_neg (fun h => h rfl)]
      by_cases h3 : m = n
      · subst h3
        rw [if_neg (fun h => h rfl)]
        have hmm : (m != m) = false := by simp
        go_enter Tryz.func29, Tryz.ntmps29
        go_wp2_with fail
        rw [← hW1]
        refine HX.out.mono ?_
        rintro e W2 ⟨rfl, hb2⟩
        obtain ⟨_, _, k2, k3⟩ := hK.out W2 hb2
        go_wp2_with fail
        clear k2 k3
        refine (HY.out W2 hb2).mono ?_
        rintro e W3 ⟨rfl, hb3⟩
        have B3 := btt hb2 hb3
        obtain ⟨k0, k1, k2, k3⟩ := hK.out W3 B3
        go_wp2
        go_ret
        exact ⟨rfl, bt hb1 B3 hb1.size⟩
      · rw [if_pos h3]
        have hmm : (m != n) = true := by simp [h3]
        go_enter Tryz.func29, Tryz.ntmps29
        go_wp2_with fail
        rw [← hW1]
        refine HX.out.mono ?_
        rintro e W2 ⟨rfl, hb2⟩
        obtain ⟨_, _, k2, k3⟩ := hK.out W2 hb2
        go_wp2_with fail
        clear k2 k3
        refine (HY.out W2 hb2).mono ?_
        rintro e W3 ⟨rfl, hb3⟩
        have B3 := btt hb2 hb3
        obtain ⟨k0, k1, k2, k3⟩ := hK.out W3 B3
        go_wp2
        go_ret
        exact ⟨rfl, bt hb1 B3 hb1.size⟩
    · rw [if_pos h2]
      have hf : (F != 0) = true := by simp [h2]
      have hf2 : (F == 0) = false := by simp [h2]
      go_enter Tryz.func29, Tryz.ntmps29
      go_wp2_with fail
      rw [← hW1]
      refine HX.out.mono ?_
      rintro e W2 ⟨rfl, hb2⟩
      obtain ⟨_, _, k2, k3⟩ := hK.out W2 hb2
      go_wp2_with fail
      clear k2 k3
      refine (HY.out W2 hb2).mono ?_
      rintro e W3 ⟨rfl, hb3⟩
      have B3 := btt hb2 hb3
      go_wp2
      go_ret
      exact ⟨rfl, bt hb1 B3 hb1.size⟩
  · rw [if_pos h1]
    have hf : (E != 0) = true := by simp [h1]
    have hf2 : (E == 0) = false := by simp [h1]
    go_enter Tryz.func29, Tryz.ntmps29
    go_wp2_with fail
    rw [← hW1]
    refine HX.out.mono ?_
    rintro e W2 ⟨rfl, hb2⟩
    go_wp2
    go_ret
    exact ⟨rfl, bt hb1 hb2 hb1.size⟩
/-- What paired hands back: a builder, whose function of moves has four boxes. -/
def PairOut (w : World) (K : Nat) (n n' : Int) (sa sb : Value) (e : Ending) (w' : World) : Prop :=
  ∃ bF bA bB bK, e = .returned (.agg #[.int .i64 n, .int .i64 0, .int .i64 0, .string ⟨#[]⟩, .func (.func 64) #[] #[.pointer (some ⟨bF, 0, none⟩), .pointer (some ⟨bA, 0, none⟩), .pointer (some ⟨bB, 0, none⟩), .pointer (some ⟨bK, 0, none⟩)]]) ∧
    w'.heap[bF]? = some (.cells #[.func (.func 63) #[] #[]] 104) ∧ w'.heap[bK]? = some (.cells #[.func (.func K) #[] #[]] 67) ∧
    w'.heap[bA]? = some (.cells #[.int .i64 n, sa] 24) ∧ w'.heap[bB]? = some (.cells #[.int .i64 n', sb] 24) ∧ Below w.heap.size w w'
set_option maxRecDepth 100000 in
set_option maxHeartbeats 800000 in
theorem pairedC {w : World} {K : Nat} {n n' : Int} {aa ba : Option Addr} {al bl ac bc : Nat} :
    Calls Tryz.prog 30 #[.agg #[.int .i64 n, .slice aa al ac], .agg #[.int .i64 n', .slice ba bl bc], .func (.func K) #[] #[]] w (PairOut w K n n' (.slice aa al ac) (.slice ba bl bc)) := by
  go_enter Tryz.func30, Tryz.ntmps30
  go_wp2
  obtain ⟨Wf, hWf⟩ : ∃ Wf, Wf = ((((w.alloc (.cells #[.int .i64 n, .slice aa al ac] 24)).alloc (.cells #[.int .i64 n', .slice ba bl bc] 24)).alloc (.cells #[.func (.func K) #[] #[]] 67)).alloc
    (.cells #[.int .i64 n, .int .i64 0, .int .i64 0, .string ⟨#[]⟩, .func (.func 64) #[] #[.pointer (some ⟨w.heap.size + 1 + 1 + 1 + 1, 0, none⟩), .pointer (some ⟨w.heap.size, 0, none⟩), .pointer (some ⟨w.heap.size + 1, 0, none⟩), .pointer (some ⟨w.heap.size + 1 + 1, 0, none⟩)]] 65)).alloc (.cells #[.func (.func 63) #[] #[]] 104) := ⟨_, rfl⟩
  have hbf : Below w.heap.size w Wf := by
    rw [hWf]
    exact (((((Below.refl _ w).alloc (Nat.le_refl _) _).alloc (by simp) _).alloc (by first | (simp; done) | (simp; omega)) _).alloc (by first | (simp; done) | (simp; omega)) _).alloc (by first | (simp; done) | (simp; omega)) _
  have nA : Wf.heap[w.heap.size]? = some (.cells #[.int .i64 n, .slice aa al ac] 24) := by
    rw [hWf]
    exact (Below.heap_alloc _ _ _ (by first | (simp; done) | (simp; omega))).trans ((Below.heap_alloc _ _ _ (by first | (simp; done) | (simp; omega))).trans ((Below.heap_alloc _ _ _ (by first | (simp; done) | (simp; omega))).trans ((Below.heap_alloc _ _ _ (by simp)).trans (heap_alloc_new w _))))
  have nB : Wf.heap[w.heap.size + 1]? = some (.cells #[.int .i64 n', .slice ba bl bc] 24) := by
    rw [hWf]
    have := heap_alloc_new (w.alloc (.cells #[.int .i64 n, .slice aa al ac] 24)) (.cells #[.int .i64 n', .slice ba bl bc] 24)
    rw [World.size_alloc] at this
    exact (Below.heap_alloc _ _ _ (by first | (simp; done) | (simp; omega))).trans ((Below.heap_alloc _ _ _ (by first | (simp; done) | (simp; omega))).trans ((Below.heap_alloc _ _ _ (by simp)).trans this))
  have nK : Wf.heap[w.heap.size + 1 + 1]? = some (.cells #[.func (.func K) #[] #[]] 67) := by
    rw [hWf]
    have := heap_alloc_new ((w.alloc (.cells #[.int .i64 n, .slice aa al ac] 24)).alloc (.cells #[.int .i64 n', .slice ba bl bc] 24)) (.cells #[.func (.func K) #[] #[]] 67)
    rw [World.size_alloc, World.size_alloc] at this
    exact (Below.heap_alloc _ _ _ (by first | (simp; done) | (simp; omega))).trans ((Below.heap_alloc _ _ _ (by simp)).trans this)
  have nF : Wf.heap[w.heap.size + 1 + 1 + 1 + 1]? = some (.cells #[.func (.func 63) #[] #[]] 104) := by
    rw [hWf]
    have := heap_alloc_new ((((w.alloc (.cells #[.int .i64 n, .slice aa al ac] 24)).alloc (.cells #[.int .i64 n', .slice ba bl bc] 24)).alloc (.cells #[.func (.func K) #[] #[]] 67)).alloc
      (.cells #[.int .i64 n, .int .i64 0, .int .i64 0, .string ⟨#[]⟩, .func (.func 64) #[] #[.pointer (some ⟨w.heap.size + 1 + 1 + 1 + 1, 0, none⟩), .pointer (some ⟨w.heap.size, 0, none⟩), .pointer (some ⟨w.heap.size + 1, 0, none⟩), .pointer (some ⟨w.heap.size + 1 + 1, 0, none⟩)]] 65)) (.cells #[.func (.func 63) #[] #[]] 104)
    simpa only [World.size_alloc] using this
  refine bodyPost_ret (v := .agg #[.int .i64 n, .int .i64 0, .int .i64 0, .string ⟨#[]⟩, .func (.func 64) #[] #[.pointer (some ⟨w.heap.size + 1 + 1 + 1 + 1, 0, none⟩), .pointer (some ⟨w.heap.size, 0, none⟩), .pointer (some ⟨w.heap.size + 1, 0, none⟩), .pointer (some ⟨w.heap.size + 1 + 1, 0, none⟩)]]) (by simp [results, Tryz.results30, go_sem]) rfl ?_
  rw [← hWf]
  exact ⟨_, _, _, _, rfl, nF, nK, nA, nB, hbf⟩
end Go.Proofs.YtiiiegflobihjaaGreat

/- The reference: letters, find, both. -/
namespace Go.Proofs.YtiiiegflobihjaaGreat
open Go.RowKit

set_option maxRecDepth 100000 in
set_option maxHeartbeats 1600000 in
theorem refLets {w : World} {u : Value} {ms : List (List Int)} (hK : KS 8 w u ms) (hl : ms.length ≤ 1000) :
    Calls Tryz.prog 70 #[u] w fun e w' => ∃ v, e = .returned v ∧ OwX 51 7 EI w' w.heap.size v (lets (ms.map rdOf)).length (lets (ms.map rdOf)) ∧ Below w.heap.size w w' := by
  obtain ⟨a, c, b, off, rfl, hae, hc, _⟩ := hK
  have hcm := Lib.hid (fun W (hb : Below w.heap.size w W) j (hj : j < ms.length) => And.intro (hc j hj).1 ((hc j hj).2.keep hb))
  have hll := Lib.hid (fun k => show (lets ((ms.take k).map rdOf)).length ≤ 1000 from Nat.le_trans (lets_len _) (by rw [List.length_map, List.length_take]; omega))
  have hO0 : OwX 51 7 EI w w.heap.size (.slice none 0 0) (lets ((ms.take 0).map rdOf)).length (lets ((ms.take 0).map rdOf)) := OwX.nil _ _
  clear hc
  go_enter Tryz.func70, Tryz.ntmps70
  go_wp2_with fail
  go_loopw [3, 4] (fun ov jv wr => ∃ j : Nat, jv = .int .i64 j ∧ j ≤ ms.length ∧ OwX 51 7 EI wr w.heap.size ov (lets ((ms.take j).map rdOf)).length (lets ((ms.take j).map rdOf)) ∧ Below w.heap.size w wr) (fun _ jv _ => ms.length - (intOf jv).toNat)
  case atStart => exact ⟨0, rfl, by omega, hO0, Below.refl _ _⟩
  case round =>
    clear hO0
    obtain ⟨j, rfl, hj, hO, hbr⟩ := hrel
    by_cases hlt : j < ms.length
    · have hji : (j : Int) < (ms.length : Int) := by omega
      obtain rfl := hae (by omega)
      obtain ⟨hm8, hmc⟩ := hcm.out wr hbr j hlt
      obtain ⟨m, hm⟩ : ∃ m, ms.getD j [] = m := ⟨_, rfl⟩
      have hsn : Hid (lets ((ms.take (j + 1)).map rdOf) = insR (rdOf m) (lets ((ms.take j).map rdOf))) := by
        show _ = _
        rw [take_snoc hlt ([] : List Int), hm, List.map_append, List.map_singleton, lets_snoc]
      rw [hm] at hm8 hmc
      obtain ⟨m0, m1, m2, m3, m4, m5, m6, m7, rfl⟩ := eight hm8
      obtain ⟨c0, c1, c2, c3, c4, c5, c6, c7⟩ := hmc.all8
      have hlj := hll.out j
      obtain ⟨L, hL⟩ : ∃ L, lets ((ms.take j).map rdOf) = L := ⟨_, rfl⟩
      rw [hL] at hO hlj hsn
      obtain ⟨oa, oc, hov⟩ := hO.shape
      subst hov
      have HI := Lib.hid (refIns hO hlj hbr.size m0 m1 m2 m3 m4 m5 m6)
      have hsn : Hid (lets ((ms.take (j + 1)).map rdOf) = insR [m0, m1, m2, m3, m4, m5, m6] L) := hsn
      replace hL := Lib.hid hL
      replace hm := Lib.hid hm
      clear hmc hm8 hO
      go_wp2_with fail
      refine HI.out.mono ?_
      rintro e w1 ⟨v1, rfl, ho1, hb1⟩
      have hbf := bt hbr hb1 hbr.size
      rw [← hsn.out] at ho1
      go_wp2
      go_roundw
      case rel => exact ⟨j + 1, by go_num, hlt, ho1, hbf⟩
      case measure => simp [intOf]; omega
    · obtain rfl : j = ms.length := by omega
      have hge : ¬ ((ms.length : Int) < (ms.length : Int)) := by omega
      rw [List.take_length] at hO
      replace hO := Lib.hid hO
      go_wp2
      go_ret
      exact ⟨_, rfl, hO.out, hbr⟩

/-- Pairs in rows of the reference. -/
def EPr (_ : World) (cs : List Value) (x : Nd) : Prop := cs = [.int .i64 x.1, .int .i64 x.2.1] ∧ x.2.2 = []
theorem EPr.stab (E : TypeId) : Stab E EPr := fun _ _ _ _ h _ => h
/-- The place of a node, or -1. -/
def fndI (l : List Nd) (x : Nd) : Int := if x ∈ l then (ixOf l x : Int) else -1
theorem ixOf_at {κ : Type} [DecidableEq κ] : ∀ {l : List κ} {x : κ} {k : Nat}, (∀ j, j < k → l[j]? ≠ some x) → l[k]? = some x → ixOf l x = k
  | [], _, _, _, h => by simp at h
  | a :: l, x, 0, _, h => by
    simp only [List.getElem?_cons_zero, Option.some.injEq] at h
    subst h; simp [ixOf]
  | a :: l, x, k + 1, h1, h2 => by
    have ha : a ≠ x := fun e => h1 0 (by omega) (by simp [e])
    have ih := ixOf_at (l := l) (x := x) (k := k) (fun j hj h => h1 (j + 1) (by omega) (by simpa using h)) (by simpa using h2)
    rw [ixOf] at ih ⊢
    rw [List.idxOf_cons, ih, show (a == x) = false from beq_eq_false_iff_ne.2 ha]
    rfl
theorem eqPr (d : Nat) (a b a' b' : Int) (w : World) : (Op.equalIn (d + 2) 113 (.agg #[.int .i64 a, .int .i64 b]) (.agg #[.int .i64 a', .int .i64 b'])).run Tryz.prog w = .ok (eqL [a, b] [a', b']) w := by
  have u3 := Tryz.underlying3
  have a3 := Tryz.isAgg3
  have z3 := Tryz.sizeOf3
  have hS : Tryz.prog.underlying 113 = some (.struct (Tryz.prog.fieldsOf 113)) := by kernel_rfl
  have hp : Tryz.prog.stoodInHeld 113 = false := by kernel_rfl
  rw [show d + 2 = (d + 1) + 1 from rfl, run_equalIn_agg w (d + 1) 113 _ _ hS hp]
  simp only [Program.fieldsOf, Tryz.underlying113]
  go_simp
  by_cases h0 : a = a' <;> by_cases h1 : b = b' <;> simp_all [eqL]
@[go_sem high] theorem eqPr' (a b a' b' : Int) (w : World) : (Op.equalIn 10000 113 (.agg #[.int .i64 a, .int .i64 b]) (.agg #[.int .i64 a', .int .i64 b'])).run Tryz.prog w = .ok (eqL [a, b] [a', b']) w := eqPr 9998 a b a' b' w

set_option maxRecDepth 100000 in
set_option maxHeartbeats 800000 in
theorem refBoth18 {w : World} {u v : Value} {m n : Int} {xs ys : List (List (List Int))} (hx : AdvV w u m xs) (hy : AdvV w v n ys) :
    Calls Tryz.prog 33 #[u, v] w fun e w' => e = .returned (.int .i64 (eqErr m n xs ys)) ∧ Below w.heap.size w w' := by
  obtain ⟨xa, xc, hu⟩ := advShape' hx
  obtain ⟨ya, yc, hv⟩ := advShape' hy
  subst hu hv
  obtain ⟨W1, hW1⟩ : ∃ W1, W1 = (w.alloc (.cells #[.int .i64 m, .slice xa xs.length xc] 24)).alloc (.cells #[.int .i64 n, .slice ya ys.length yc] 24) := ⟨_, rfl⟩
  obtain ⟨hb1, ⟨p0, p1⟩, ⟨q0, q1⟩, _, _⟩ := boxAdv2 hW1
  have HX := Lib.hid (refCheckA (hx.keep hb1))
  have HY := Lib.hid (fun W (hb : Below W1.heap.size W1 W) => refCheckA ((hy.keep hb1).keep hb))
  have hK := Lib.hid (fun W (hb : Below W1.heap.size W1 W) => And.intro (cell_kept hb p0) (And.intro (cell_kept hb p1) (And.intro (cell_kept hb q0) (cell_kept hb q1))))
  obtain ⟨E, hE⟩ : ∃ E, chkA m xs = E := ⟨_, rfl⟩
  obtain ⟨F, hF⟩ : ∃ F, chkA n ys = F := ⟨_, rfl⟩
  have hr : eqErr m n xs ys = if E ≠ 0 then E else if F ≠ 0 then F else if m ≠ n then 22 else 0 := by rw [eqErr, hE, hF]
  rw [hE] at HX
  rw [hF] at HY
  rw [hr]
  clear hr hE hF hx hy p0 p1 q0 q1
  by_cases h1 : E = 0
  · subst h1
    rw [if_neg (fun h => h rfl)]
    by_cases h2 : F = 0
    · subst h2
      rw [if_neg (fun h => h rfl)]
      by_cases h3 : m = n
      · subst h3
        rw [if_neg (fun h => h rfl)]
        have hmm : (m != m) = false := by simp
        go_enter Tryz.func33, Tryz.ntmps33
        go_wp2_with fail
        rw [← hW1]
        refine HX.out.mono ?_
        rintro e W2 ⟨rfl, hb2⟩
        obtain ⟨_, _, k2, k3⟩ := hK.out W2 hb2
        go_wp2_with fail
        clear k2 k3
        refine (HY.out W2 hb2).mono ?_
        rintro e W3 ⟨rfl, hb3⟩
        have B3 := btt hb2 hb3
        obtain ⟨k0, k1, k2, k3⟩ := hK.out W3 B3
        go_wp2
        go_ret
        exact ⟨rfl, bt hb1 B3 hb1.size⟩
      · rw [if_pos h3]
        have hmm : (m != n) = true := by simp [h3]
        go_enter Tryz.func33, Tryz.ntmps33
        go_wp2_with fail
        rw [← hW1]
        refine HX.out.mono ?_
        rintro e W2 ⟨rfl, hb2⟩
        obtain ⟨_, _, k2, k3⟩ := hK.out W2 hb2
        go_wp2_with fail
        clear k2 k3
        refine (HY.out W2 hb2).mono ?_
        rintro e W3 ⟨rfl, hb3⟩
        have B3 := btt hb2 hb3
        obtain ⟨k0, k1, k2, k3⟩ := hK.out W3 B3
        go_wp2
        go_ret
        exact ⟨rfl, bt hb1 B3 hb1.size⟩
    · rw [if_pos h2]
      have hf : (F != 0) = true := by simp [h2]
      have hf2 : (F == 0) = false := by simp [h2]
      go_enter Tryz.func33, Tryz.ntmps33
      go_wp2_with fail
      rw [← hW1]
      refine HX.out.mono ?_
      rintro e W2 ⟨rfl, hb2⟩
      obtain ⟨_, _, k2, k3⟩ := hK.out W2 hb2
      go_wp2_with fail
      clear k2 k3
      refine (HY.out W2 hb2).mono ?_
      rintro e W3 ⟨rfl, hb3⟩
      have B3 := btt hb2 hb3
      go_wp2
      go_ret
      exact ⟨rfl, bt hb1 B3 hb1.size⟩
  · rw [if_pos h1]
    have hf : (E != 0) = true := by simp [h1]
    have hf2 : (E == 0) = false := by simp [h1]
    go_enter Tryz.func33, Tryz.ntmps33
    go_wp2_with fail
    rw [← hW1]
    refine HX.out.mono ?_
    rintro e W2 ⟨rfl, hb2⟩
    go_wp2
    go_ret
    exact ⟨rfl, bt hb1 hb2 hb1.size⟩
end Go.Proofs.YtiiiegflobihjaaGreat

/- combine.Then: the stages, plain lists. -/
namespace Go.Proofs.YtiiiegflobihjaaGreat

/-- Faulty processes of both. -/
def orI (a b : Int) : Int := ((a.toNat ||| b.toNat : Nat) : Int)
def uniR (f : Int) (r : List Int) : List Int := r.take 6 ++ [orI (r.getD 6 0) f]
def unM (f : Int) (m : List Int) : List Int := uniR f (rdOf m)
def thMs (bz : List (List (List Int))) (set : List Nat) : List (List Int) := set.flatMap fun s => bz.getD s []
def thTo (f : Int) (ms : List (List Int)) (r : List Int) : List Nat := (ms.filter fun m => decide (unM f m = r)).map mvTo
def thTx (l : List Nat) : List Nat := (List.range 256).filter fun s => decide (s ∈ l)
def thRs (f : Int) (ms : List (List Int)) : List (List Int) := lets (ms.map (unM f))
def thSq (bz : List (List (List Int))) (k f : Int) (set : List Nat) : List (List Int × Nd) := (thRs f (thMs bz set)).map fun r => (r, (k, f, thTx (thTo f (thMs bz set) r)))
def thF (k : Int) (x : Nd) (m : List Int) : List Int × Nd := (rdOf m, if x.1 + 1 = k then (k, (rdOf m).getD 6 0, [0]) else (x.1 + 1, (mvTo m : Int), []))
/-- The arrows of a stage. -/
def thSt (az bz : List (List (List Int))) (k : Int) (x : Nd) : List (List Int × Nd) := if x.2.2 = [] then (az.getD x.2.1.toNat []).map (thF k x) else thSq bz k x.2.1 x.2.2
def thFs (k : Int) : Nd := if k = 0 then (0, 0, [0]) else nd0
def thA (az bz : List (List (List Int))) (k : Int) : Option (List (List (List Int))) := (exG (thSt az bz k) 300 0 [thFs k] []).getD none
theorem thA_eq (az bz : List (List (List Int))) (k : Int) : exG (thSt az bz k) 300 0 [thFs k] [] = some (thA az bz k) := by
  obtain ⟨R, hR⟩ := exG_some (thSt az bz k) 300 0 [thFs k] [] (by simp) (by omega) (by omega)
  rw [thA, hR]; rfl

theorem orI_le {a b : Int} (ha : 0 ≤ a ∧ a ≤ 31) (hb : 0 ≤ b ∧ b ≤ 31) : 0 ≤ orI a b ∧ orI a b ≤ 31 := by
  have h := Nat.or_lt_two_pow (n := 5) (x := a.toNat) (y := b.toNat) (by omega) (by omega)
  unfold orI
  omega
theorem uniR_len {f : Int} {r : List Int} (h : r.length = 7) : (uniR f r).length = 7 := by simp [uniR, h]
theorem uniR_all {f : Int} {r : List Int} (hf : 0 ≤ f ∧ f ≤ 31) (h : r.length = 7) (ha : ∀ x ∈ r, 0 ≤ x ∧ x ≤ 31) : ∀ x ∈ uniR f r, 0 ≤ x ∧ x ≤ 31 := fun x hx => by
  rcases List.mem_append.1 hx with hx | hx
  · exact ha x (List.mem_of_mem_take hx)
  · obtain rfl := List.mem_singleton.1 hx
    refine orI_le (ha _ ?_) hf
    rw [getD_eq (by omega)]; exact List.getElem_mem _
theorem thTx_mem (l : List Nat) (s : Nat) : s ∈ thTx l ↔ s < 256 ∧ s ∈ l := by simp [thTx]
theorem thTx_asc (l : List Nat) : (thTx l).Pairwise (· < ·) := List.Pairwise.filter _ List.pairwise_lt_range
theorem thTx_of {l l' : List Nat} (ha : l'.Pairwise (· < ·)) (hm : ∀ x, x ∈ l' ↔ x ∈ l) (hl : ∀ x ∈ l, x < 256) : l' = thTx l :=
  sorted_unique (lt := fun a b : Nat => a < b) (fun a b h k => by omega) ha (thTx_asc l) fun x => by
    rw [hm, thTx_mem]; exact ⟨fun h => ⟨hl x h, h⟩, fun h => h.2⟩
theorem asc_len : ∀ {l : List Nat} {b n : Nat}, l.Pairwise (· < ·) → (∀ x ∈ l, b ≤ x ∧ x < n) → l.length ≤ n - b
  | [], _, _, _, _ => by simp
  | a :: l, b, n, h, hm => by
    rw [List.pairwise_cons] at h
    have ha := hm a (by simp)
    have := asc_len (b := a + 1) (n := n) h.2 fun x hx => ⟨h.1 x hx, (hm x (by simp [hx])).2⟩
    simp only [List.length_cons]; omega

/-- Small well-formed states. -/
structure AdS (ss : List (List (List Int))) : Prop where
  ok : AdOK ss
  len : ss.length ≤ 8
  mv : movesN ss ≤ 40
  rd : ∀ s ∈ ss, ∀ m ∈ s, ∀ x ∈ rdOf m, 0 ≤ x ∧ x ≤ 31
theorem AdS.all {ss : List (List (List Int))} (h : AdS ss) (s : Nat) : (ss.getD s []).length ≤ 40 ∧ ∀ m ∈ ss.getD s [], m.length = 8 ∧ (rdOf m).length = 7 ∧ (0 ≤ m.getD 7 0 ∧ m.getD 7 0 < (ss.length : Int)) ∧ mvTo m < ss.length ∧ ∀ x ∈ rdOf m, 0 ≤ x ∧ x ≤ 31 := by
  by_cases hs : s < ss.length
  · rw [getD_eq hs]
    have hm := List.getElem_mem hs
    refine ⟨Nat.le_trans (mem_movesN hm) h.mv, fun m hmm => ?_⟩
    obtain ⟨h1, h2, h3⟩ := (h.ok.st _ hm).2.2.2 m hmm
    exact ⟨h1, by rw [rdOf, List.length_take]; omega, ⟨h2, h3⟩, by unfold mvTo; omega, h.rd _ hm m hmm⟩
  · rw [List.getD_eq_getElem?_getD, List.getElem?_eq_none (by omega)]
    exact ⟨by simp, fun m hm => by simp at hm⟩
/-- Stages that are met. -/
def PT (az bz : List (List (List Int))) (k : Int) (x : Nd) : Prop :=
  (x.2.2 = [] ∧ (0 ≤ x.1 ∧ x.1 < k) ∧ 0 ≤ x.2.1 ∧ x.2.1 < (az.length : Int)) ∨
  (x.2.2 ≠ [] ∧ x.1 = k ∧ (0 ≤ x.2.1 ∧ x.2.1 ≤ 31) ∧ x.2.2.Pairwise (· < ·) ∧ ∀ s ∈ x.2.2, s < bz.length)
theorem thMs_all {bz : List (List (List Int))} (hB : AdS bz) (set : List Nat) : ∀ m ∈ thMs bz set, m.length = 8 ∧ (rdOf m).length = 7 ∧ (0 ≤ m.getD 7 0 ∧ m.getD 7 0 < (bz.length : Int)) ∧ mvTo m < bz.length ∧ ∀ x ∈ rdOf m, 0 ≤ x ∧ x ≤ 31 := fun m hm => by
  obtain ⟨s, _, hm⟩ := List.mem_flatMap.1 hm
  exact (hB.all s).2 m hm
theorem thMs_len {bz : List (List (List Int))} (hB : AdS bz) : ∀ set : List Nat, (thMs bz set).length ≤ 40 * set.length
  | [] => by simp [thMs]
  | s :: set => by
    have h := thMs_len hB set
    have h1 := (hB.all s).1
    simp only [thMs, List.flatMap_cons, List.length_append, List.length_cons] at h ⊢
    omega
theorem PT.setLen {az bz : List (List (List Int))} {k : Int} {x : Nd} (hB : AdS bz) (h : PT az bz k x) : x.2.2.length ≤ 8 := by
  rcases h with ⟨h, _⟩ | ⟨_, _, _, h1, h2⟩
  · rw [h]; simp
  · have := asc_len (b := 0) (n := bz.length) h1 fun s hs => ⟨Nat.zero_le _, h2 s hs⟩
    have := hB.len
    omega
theorem thMs_320 {az bz : List (List (List Int))} {k : Int} {x : Nd} (hB : AdS bz) (h : PT az bz k x) : (thMs bz x.2.2).length ≤ 320 := by
  have := thMs_len hB x.2.2
  have := h.setLen hB
  omega
theorem thMs_pos {bz : List (List (List Int))} {set : List Nat} (hB : AdS bz) (h0 : set ≠ []) (hs : ∀ s ∈ set, s < bz.length) : 0 < (thMs bz set).length := by
  obtain ⟨a, set, rfl⟩ := List.exists_cons_of_ne_nil h0
  have ha := hs a (by simp)
  have h1 := (hB.ok.st _ (List.getElem_mem ha)).1
  simp only [thMs, List.flatMap_cons, List.length_append, getD_eq ha]
  omega
theorem thTo_lt {bz : List (List (List Int))} (hB : AdS bz) {set : List Nat} {f : Int} {r : List Int} : ∀ s ∈ thTo f (thMs bz set) r, s < bz.length := fun s hs => by
  obtain ⟨m, hm, rfl⟩ := List.mem_map.1 hs
  exact (thMs_all hB set m (List.mem_filter.1 hm).1).2.2.2.1
theorem thTo_len (f : Int) (ms : List (List Int)) (r : List Int) : (thTo f ms r).length ≤ ms.length := by
  rw [thTo, List.length_map]; exact List.length_filter_le _ _
theorem thTo_pos {f : Int} {ms : List (List Int)} {r : List Int} (h : r ∈ thRs f ms) : thTo f ms r ≠ [] := by
  obtain ⟨m, hm, rfl⟩ := List.mem_map.1 ((lets_mem _ _).1 h)
  exact List.ne_nil_of_mem (List.mem_map.2 ⟨m, List.mem_filter.2 ⟨hm, by simp⟩, rfl⟩)
theorem thRs_all {bz : List (List (List Int))} (hB : AdS bz) {set : List Nat} {f : Int} (hf : 0 ≤ f ∧ f ≤ 31) : ∀ r ∈ thRs f (thMs bz set), r.length = 7 ∧ ∀ x ∈ r, 0 ≤ x ∧ x ≤ 31 := fun r hr => by
  obtain ⟨m, hm, rfl⟩ := List.mem_map.1 ((lets_mem _ _).1 hr)
  obtain ⟨_, h7, _, _, ha⟩ := thMs_all hB set m hm
  exact ⟨uniR_len h7, uniR_all hf h7 ha⟩
theorem thRs_len (f : Int) (ms : List (List Int)) : (thRs f ms).length ≤ ms.length := by
  have := lets_len (ms.map (unM f))
  rwa [List.length_map] at this
theorem PT.first {az bz : List (List (List Int))} {k : Int} (hA : AdS az) (hB : AdS bz) (hk : 0 ≤ k) : PT az bz k (thFs k) := by
  have := hA.ok.pos
  have := hB.ok.pos
  unfold thFs
  split
  · rename_i h
    exact .inr ⟨by simp, h.symm, ⟨by simp, by simp⟩, by simp, by simpa using hB.ok.pos⟩
  · refine .inl ⟨rfl, ⟨?_, ?_⟩, ?_, ?_⟩ <;> simp only [nd0] <;> omega
/-- What is behind a stage that is met is met. -/
theorem thSt_ok {az bz : List (List (List Int))} {k : Int} (hA : AdS az) (hB : AdS bz) {x : Nd} (hx : PT az bz k x) : (∀ a ∈ thSt az bz k x, PT az bz k a.2 ∧ a.1.length = 7) ∧ (thSt az bz k x).length ≤ 320 := by
  have hx' := hx
  rcases hx with ⟨h0, hk, h1⟩ | ⟨h0, hk, hf, ha, hs⟩
  · rw [thSt, if_pos h0]
    obtain ⟨h2, h3⟩ := hA.all x.2.1.toNat
    refine ⟨fun a ham => ?_, by rw [List.length_map]; omega⟩
    obtain ⟨m, hm, rfl⟩ := List.mem_map.1 ham
    obtain ⟨_, m2, _, m4, m5⟩ := h3 m hm
    refine ⟨?_, m2⟩
    unfold thF
    by_cases he : x.1 + 1 = k
    · simp only [if_pos he]
      refine .inr ⟨by simp, rfl, m5 _ ?_, by simp, by simpa using hB.ok.pos⟩
      rw [getD_eq (by omega)]; exact List.getElem_mem _
    · simp only [if_neg he]
      refine .inl ⟨rfl, ⟨?_, ?_⟩, ?_, ?_⟩ <;> simp only <;> omega
  · rw [thSt, if_neg h0]
    refine ⟨fun a ham => ?_, ?_⟩
    · obtain ⟨r, hr, rfl⟩ := List.mem_map.1 ham
      refine ⟨.inr ⟨?_, rfl, hf, thTx_asc _, fun s hsm => thTo_lt hB s ((thTx_mem _ _).1 hsm).2⟩, (thRs_all hB hf r hr).1⟩
      intro he
      obtain ⟨s, hsm⟩ := List.exists_mem_of_ne_nil _ (thTo_pos hr)
      have h8 := thTo_lt hB s hsm
      have := hB.len
      have hm := (thTx_mem _ _).2 ⟨by omega, hsm⟩
      simp only at he
      rw [he] at hm
      cases hm
    · rw [thSq, List.length_map]
      exact Nat.le_trans (thRs_len _ _) (thMs_320 hB hx')
theorem PT.sm {az bz : List (List (List Int))} {k : Int} {x : Nd} (hA : AdS az) (hB : AdS bz) (hk : 0 ≤ k ∧ k ≤ 1000) (hx : PT az bz k x) : SmN x := by
  have h1 := hx.setLen hB
  have := hA.len
  have := hB.len
  rcases hx with ⟨h0, hk, h1⟩ | ⟨h0, hk, hf, ha, hs⟩
  · exact ⟨by omega, by omega, by rw [h0]; simp, by rw [h0]; simp⟩
  · exact ⟨by omega, by omega, by omega, fun s hsm => by have := hs s hsm; omega⟩
theorem wf31 {r : List Int} (hl : r.length = 7) (h : chkRd r = 0) : ∀ x ∈ r, 0 ≤ x ∧ x ≤ 31 := by
  obtain ⟨n, h0, h1, h2, h3, h4, f, rfl⟩ := seven hl
  have hg : chkGr n [h0, h1, h2, h3, h4] = 0 := by
    by_cases hc : chkGr n [h0, h1, h2, h3, h4] = 0
    · exact hc
    · rw [chkRd_1 hc] at h; exact h
  obtain ⟨hn, hh⟩ := chkGr_zero hg
  obtain ⟨_, hf0, hf1⟩ := chkSet_zero (chkRd_zero h)
  have h32 := twoI_le (n := n)
  intro x hx
  simp only [List.mem_cons, List.not_mem_nil, or_false] at hx
  have hf0 : 0 ≤ f := hf0
  have hf1 : f < twoI n := hf1
  rcases hx with rfl | hx
  · omega
  rcases hx with rfl | rfl | rfl | rfl | rfl | rfl
  · exact hh x (by simp)
  · exact hh x (by simp)
  · exact hh x (by simp)
  · exact hh x (by simp)
  · exact hh x (by simp)
  · omega
theorem adS_of {n : Int} {ss : List (List (List Int))} (h8 : ∀ s ∈ ss, ∀ m ∈ s, m.length = 8) (h : chkA n ss = 0) (hl : ss.length ≤ 8) (hm : movesN ss ≤ 40) : AdS ss := by
  refine ⟨adOK_of h8 h fun s hs => by have := mem_movesN hs; omega, hl, hm, fun s hs m hmm => ?_⟩
  obtain ⟨_, _, h3, _⟩ := chkA_facts h
  have h4 := ssGo_zero h3 s hs
  unfold stErr at h4
  by_cases he : s.length = 0
  · rw [if_pos he] at h4; cases h4
  rw [if_neg he] at h4
  obtain ⟨j, hj, rfl⟩ := List.mem_iff_getElem.1 hmm
  obtain ⟨c1, _, _, _, _⟩ := mvErr_zero (mvGo_zero h4 j (by omega) (by omega))
  rw [getD_eq hj] at c1
  exact wf31 (by rw [rdOf, List.length_take, h8 s hs _ hmm]; rfl) c1
end Go.Proofs.YtiiiegflobihjaaGreat

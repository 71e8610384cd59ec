/- Texts of this claim, put together: E6 U0 CK DA DB. -/
import Derived.Test.YtiiiegflobihjaaGreatKUnitesj
import Derived.Test.YtiiiegflobihjaaGreatKUnitesk
import Derived.Test.YtiiiegflobihjaaGreatKUniteso
import Derived.Test.YtiiiegflobihjaaGreatKUnitesp
import Derived.Laws.EntriesVeiled
import Derived.Test.YtiiiegflobihjaaGreatKUnitesa
import Derived.WideKeyEntry

/- Is and Equal. -/
namespace Go.Proofs.YtiiiegflobihjaaGreat
open Go.RowKit Go.ChangeMaps Go.MapKept

/-- The answer of Equal. -/
def eqErr (m n : Int) (xs ys : List (List (List Int))) : Int := if chkA m xs ≠ 0 then chkA m xs else if chkA n ys ≠ 0 then chkA n ys else if m ≠ n then 22 else 0
end Go.Proofs.YtiiiegflobihjaaGreat

/- Two systems side by side: words, search and form of the one are those of the other; classes of states are classes of languages. Plain lists. -/
namespace Go.Proofs.YtiiiegflobihjaaGreat

theorem ascL_of {n : Int} {ss : List (List (List Int))} (h : chkA n ss = 0) : ∀ s ∈ ss, AscL (s.map rdOf) := fun s hs => by
  obtain ⟨_, _, h3, _⟩ := chkA_facts h
  have h4 := ssGo_zero h3 s hs
  unfold stErr at h4
  by_cases he : s.length = 0
  · rw [List.length_eq_zero_iff.1 he]; exact List.Pairwise.nil
  rw [if_neg he] at h4
  have hadj : ∀ i, 0 < i → i < s.length → cmpL (rdOf (s.getD (i - 1) [])) (rdOf (s.getD i [])) < 0 := fun i h0 hi => by
    obtain ⟨_, _, c3, _, _⟩ := mvErr_zero (mvGo_zero h4 i (by omega) (by omega))
    have := c3 h0
    unfold rdOf; omega
  unfold AscL
  rw [List.pairwise_iff_getElem]
  intro i j hi hj hij
  rw [List.length_map] at hi hj
  rw [List.getElem_map, List.getElem_map]
  obtain ⟨d, rfl⟩ : ∃ d, j = i + 1 + d := ⟨j - i - 1, by omega⟩
  induction d with
  | zero =>
    have := hadj (i + 1) (by omega) hj
    rw [Nat.add_sub_cancel, getD_eq hi, getD_eq hj] at this
    exact this
  | succ d ih =>
    have h1 := ih (by rw [List.length_map]; omega) (by omega) (by omega)
    have h2 := hadj (i + 1 + (d + 1)) (by omega) hj
    rw [show i + 1 + (d + 1) - 1 = i + 1 + d by omega, getD_eq (by omega : i + 1 + d < s.length), getD_eq hj] at h2
    exact cmpL_trans _ _ _ h1 h2
/-- Two lists, element by element. -/
def All2 {α β : Type} (R : α → β → Prop) : List α → List β → Prop
  | [], [] => True
  | a :: l, b :: m => R a b ∧ All2 R l m
  | _, _ => False
section
variable {α β : Type} {R : α → β → Prop}
theorem All2.len : ∀ {l : List α} {m : List β}, All2 R l m → l.length = m.length
  | [], [], _ => rfl
  | _ :: _, _ :: _, h => by rw [List.length_cons, List.length_cons, All2.len h.2]
  | [], _ :: _, h => h.elim
  | _ :: _, [], h => h.elim
theorem All2.imp {R' : α → β → Prop} (hi : ∀ a b, R a b → R' a b) : ∀ {l : List α} {m : List β}, All2 R l m → All2 R' l m
  | [], [], _ => trivial
  | _ :: _, _ :: _, h => ⟨hi _ _ h.1, All2.imp hi h.2⟩
  | [], _ :: _, h => h.elim
  | _ :: _, [], h => h.elim
end

section
variable {ρ : Nat → Nat → Prop} {kf kf' : Nat → Nat} {ss tt : List (List (List Int))}
theorem ClsOK.len8 (h : ClsOK ss) : ∀ s ∈ ss, ∀ m ∈ s, m.length = 8 := fun s hs m hm => ((h.2.2.2 s hs).2 m hm).2.1
end

/-- A word is permitted from a state on. -/
def alw (ss : List (List (List Int))) : List (List Int) → Nat → Prop
  | [], _ => True
  | r :: w, s => 0 ≤ toI r (ss.getD s []) ∧ alw ss w (toI r (ss.getD s [])).toNat
section
variable {ρ : Nat → Nat → Prop} {ss tt : List (List (List Int))}
theorem alw_after : ∀ {w : List (List Int)} {s : Nat}, alw ss w s ↔ 0 ≤ afterI ss w s
  | [], s => by simp [alw, afterI]
  | r :: w, s => by
    rw [alw, afterI]
    by_cases h : toI r (ss.getD s []) < 0
    · rw [if_pos h]
      exact ⟨fun h' => absurd h'.1 (by omega), fun h' => absurd h' (by decide)⟩
    · rw [if_neg h, alw_after (w := w)]
      exact ⟨fun h' => h'.2, fun h' => ⟨by omega, h'⟩⟩
theorem toI_out {r : List Int} : ∀ {x : List (List Int)}, r ∉ x.map rdOf → toI r x = -1
  | [], _ => rfl
  | a :: x, h => by
    rw [List.map_cons, List.mem_cons, not_or] at h
    rw [toI, if_neg (fun e => h.1 e.symm), toI_out h.2]
theorem toI_in {r : List Int} {x : List (List Int)} (h0 : ∀ m ∈ x, 0 ≤ m.getD 7 0) : 0 ≤ toI r x ↔ r ∈ x.map rdOf := by
  constructor
  · intro h
    by_cases hr : r ∈ x.map rdOf
    · exact hr
    · rw [toI_out hr] at h; exact absurd h (by decide)
  · exact toI_self h0
end
end Go.Proofs.YtiiiegflobihjaaGreat

/- combine: check, paired, Or. -/
namespace Go.Proofs.YtiiiegflobihjaaGreat
open Go.RowKit

theorem adOK_of {n : Int} {ss : List (List (List Int))} (h8 : ∀ s ∈ ss, ∀ m ∈ s, m.length = 8) (h : chkA n ss = 0) (hl : ∀ s ∈ ss, s.length ≤ 400) : AdOK ss := by
  have hasc := ascL_of h
  obtain ⟨_, ⟨h1, h2, _⟩, h3, _⟩ := chkA_facts h
  refine ⟨h1, by omega, fun s hs => ?_⟩
  have h4 := ssGo_zero h3 s hs
  unfold stErr at h4
  by_cases he : s.length = 0
  · rw [if_pos he] at h4; cases h4
  rw [if_neg he] at h4
  refine ⟨by omega, hl s hs, hasc s hs, fun m hmm => ?_⟩
  obtain ⟨j, hj, rfl⟩ := List.mem_iff_getElem.1 hmm
  obtain ⟨c1, _, _, c4, c5⟩ := mvErr_zero (mvGo_zero h4 j (by omega) (by omega))
  rw [getD_eq hj] at c1 c4 c5
  exact ⟨h8 s hs _ hmm, c4, c5⟩
theorem toI_pos {ss : List (List (List Int))} (h : AdOK ss) {s : Int} {r : List Int} (hr : r ∈ (ndM ss s).map rdOf) : 0 ≤ ndT ss s r := by
  have hm := ndM_all h s
  rw [ndM] at hr hm
  rw [ndT]
  split at hr
  · cases hr
  · rename_i h0
    rw [if_neg h0] at hm ⊢
    exact toI_self (fun m hmm => (hm m hmm).2.1) hr
/-- What is behind a pair that is met is met. -/
theorem prSt_ok {bt : Bool} {az bz : List (List (List Int))} (wA : AdOK az) (wB : AdOK bz) {x : Nd} (hx : PrP az bz x) : (∀ a ∈ prSt bt az bz x, PrP az bz a.2 ∧ a.1.length = 7) ∧ (prSt bt az bz x).length ≤ 800 := by
  obtain ⟨h1, h2⟩ := prRs_len wA wB hx
  refine ⟨fun a ha => ?_, Nat.le_trans (List.length_filterMap_le _ _) h1⟩
  obtain ⟨r, hr, he⟩ := List.mem_filterMap.1 ha
  unfold prF at he
  split at he
  · injection he with he
    subst he
    refine ⟨⟨ndT_ge wA r, ndT_ge wB r, ?_, rfl⟩, h2 r hr⟩
    have hm := (lets_mem _ _).1 hr
    rw [List.map_append] at hm
    rcases List.mem_append.1 hm with h | h
    · exact .inl (toI_pos wA h)
    · exact .inr (toI_pos wB h)
  · cases he
theorem PrP.sm {az bz : List (List (List Int))} (wA : AdOK az) (wB : AdOK bz) {x : Nd} (hx : PrP az bz x) : SmN x := by
  obtain ⟨h1, h2, _, h3⟩ := hx
  have := wA.len
  have := wB.len
  exact ⟨by omega, by omega, by rw [h3]; simp, by rw [h3]; simp⟩
theorem PrP.first {az bz : List (List (List Int))} (wA : AdOK az) (wB : AdOK bz) : PrP az bz nd0 := by
  have := wA.pos
  have := wB.pos
  refine ⟨⟨?_, ?_⟩, ⟨?_, ?_⟩, ?_, rfl⟩ <;> simp only [nd0] <;> omega

set_option maxRecDepth 100000 in
set_option maxHeartbeats 800000 in
theorem checkC {w : World} {u v : Value} {m n : Int} {xs ys : List (List (List Int))} (hx : AdvV w u m xs) (hy : AdvV w v n ys) (hxm : movesN xs ≤ 1000000000) (hym : movesN ys ≤ 1000000000) :
    Calls Tryz.prog 29 #[u, v] w fun e w' => e = .returned (.int .i64 (eqErr m n xs ys)) ∧ Below w.heap.size w w' := by
  obtain ⟨xa, xc, hu⟩ := advShape' hx
  obtain ⟨ya, yc, hv⟩ := advShape' hy
  subst hu hv
  obtain ⟨W1, hW1⟩ : ∃ W1, W1 = (w.alloc (.cells #[.int .i64 m, .slice xa xs.length xc] 24)).alloc (.cells #[.int .i64 n, .slice ya ys.length yc] 24) := ⟨_, rfl⟩
  obtain ⟨hb1, ⟨p0, p1⟩, ⟨q0, q1⟩, _, _⟩ := boxAdv2 hW1
  have HX := Lib.hid (checkA (hx.keep hb1) hxm)
  have HY := Lib.hid (fun W (hb : Below W1.heap.size W1 W) => checkA ((hy.keep hb1).keep hb) hym)
  have hK := Lib.hid (fun W (hb : Below W1.heap.size W1 W) => And.intro (cell_kept hb p0) (And.intro (cell_kept hb p1) (And.intro (cell_kept hb q0) (cell_kept hb q1))))
  obtain ⟨E, hE⟩ : ∃ E, chkA m xs = E := ⟨_, rfl⟩
  obtain ⟨F, hF⟩ : ∃ F, chkA n ys = F := ⟨_, rfl⟩
  have hr : eqErr m n xs ys = if E ≠ 0 then E else if F ≠ 0 then F else if m ≠ n then 22 else 0 := by rw [eqErr, hE, hF]
  rw [hE] at HX
  rw [hF] at HY
  rw [hr]
  clear hr hE hF hx hy p0 p1 q0 q1
  by_cases h1 : E = 0
  · subst h1
    rw [if_neg (fun h => h rfl)]
    by_cases h2 : F = 0
    · subst h2
      rw [if_neg (fun h => h rfl)]
      by_cases h3 : m = n
      · subst h3
        rw [if_neg (fun h => h rfl)]
        have hmm : (m != m) = false := by simp
        go_enter Tryz.func29, Tryz.ntmps29
        go_wp2_with fail
        rw [← hW1]
        refine HX.out.mono ?_
        rintro e W2 ⟨rfl, hb2⟩
        obtain ⟨_, _, k2, k3⟩ := hK.out W2 hb2
        go_wp2_with fail
        clear k2 k3
        refine (HY.out W2 hb2).mono ?_
        rintro e W3 ⟨rfl, hb3⟩
        have B3 := btt hb2 hb3
        obtain ⟨k0, k1, k2, k3⟩ := hK.out W3 B3
        go_wp2
        go_ret
        exact ⟨rfl, bt hb1 B3 hb1.size⟩
      · rw [if_pos h3]
        have hmm : (m != n) = true := by simp [h3]
        go_enter Tryz.func29, Tryz.ntmps29
        go_wp2_with fail
        rw [← hW1]
        refine HX.out.mono ?_
        rintro e W2 ⟨rfl, hb2⟩
        obtain ⟨_, _, k2, k3⟩ := hK.out W2 hb2
        go_wp2_with fail
        clear k2 k3
        refine (HY.out W2 hb2).mono ?_
        rintro e W3 ⟨rfl, hb3⟩
        have B3 := btt hb2 hb3
        obtain ⟨k0, k1, k2, k3⟩ := hK.out W3 B3
        go_wp2
        go_ret
        exact ⟨rfl, bt hb1 B3 hb1.size⟩
    · rw [if_pos h2]
      have hf : (F != 0) = true := by simp [h2]
      have hf2 : (F == 0) = false := by simp [h2]
      go_enter Tryz.func29, Tryz.ntmps29
      go_wp2_with fail
      rw [← hW1]
      refine HX.out.mono ?_
      rintro e W2 ⟨rfl, hb2⟩
      obtain ⟨_, _, k2, k3⟩ := hK.out W2 hb2
      go_wp2_with fail
      clear k2 k3
      refine (HY.out W2 hb2).mono ?_
      rintro e W3 ⟨rfl, hb3⟩
      have B3 := btt hb2 hb3
      go_wp2
      go_ret
      exact ⟨rfl, bt hb1 B3 hb1.size⟩
  · rw [if_pos h1]
    have hf : (E != 0) = true := by simp [h1]
    have hf2 : (E == 0) = false := by simp [h1]
    go_enter Tryz.func29, Tryz.ntmps29
    go_wp2_with fail
    rw [← hW1]
    refine HX.out.mono ?_
    rintro e W2 ⟨rfl, hb2⟩
    go_wp2
    go_ret
    exact ⟨rfl, bt hb1 hb2 hb1.size⟩
/-- What paired hands back: a builder, whose function of moves has four boxes. -/
def PairOut (w : World) (K : Nat) (n n' : Int) (sa sb : Value) (e : Ending) (w' : World) : Prop :=
  ∃ bF bA bB bK, e = .returned (.agg #[.int .i64 n, .int .i64 0, .int .i64 0, .string ⟨#[]⟩, .func (.func 64) #[] #[.pointer (some ⟨bF, 0, none⟩), .pointer (some ⟨bA, 0, none⟩), .pointer (some ⟨bB, 0, none⟩), .pointer (some ⟨bK, 0, none⟩)]]) ∧
    w'.heap[bF]? = some (.cells #[.func (.func 63) #[] #[]] 104) ∧ w'.heap[bK]? = some (.cells #[.func (.func K) #[] #[]] 67) ∧
    w'.heap[bA]? = some (.cells #[.int .i64 n, sa] 24) ∧ w'.heap[bB]? = some (.cells #[.int .i64 n', sb] 24) ∧ Below w.heap.size w w'
set_option maxRecDepth 100000 in
set_option maxHeartbeats 800000 in
theorem pairedC {w : World} {K : Nat} {n n' : Int} {aa ba : Option Addr} {al bl ac bc : Nat} :
    Calls Tryz.prog 30 #[.agg #[.int .i64 n, .slice aa al ac], .agg #[.int .i64 n', .slice ba bl bc], .func (.func K) #[] #[]] w (PairOut w K n n' (.slice aa al ac) (.slice ba bl bc)) := by
  go_enter Tryz.func30, Tryz.ntmps30
  go_wp2
  obtain ⟨Wf, hWf⟩ : ∃ Wf, Wf = ((((w.alloc (.cells #[.int .i64 n, .slice aa al ac] 24)).alloc (.cells #[.int .i64 n', .slice ba bl bc] 24)).alloc (.cells #[.func (.func K) #[] #[]] 67)).alloc
    (.cells #[.int .i64 n, .int .i64 0, .int .i64 0, .string ⟨#[]⟩, .func (.func 64) #[] #[.pointer (some ⟨w.heap.size + 1 + 1 + 1 + 1, 0, none⟩), .pointer (some ⟨w.heap.size, 0, none⟩), .pointer (some ⟨w.heap.size + 1, 0, none⟩), .pointer (some ⟨w.heap.size + 1 + 1, 0, none⟩)]] 65)).alloc (.cells #[.func (.func 63) #[] #[]] 104) := ⟨_, rfl⟩
  have hbf : Below w.heap.size w Wf := by
    rw [hWf]
    exact (((((Below.refl _ w).alloc (Nat.le_refl _) _).alloc (by simp) _).alloc (by first | (simp; done) | (simp; omega)) _).alloc (by first | (simp; done) | (simp; omega)) _).alloc (by first | (simp; done) | (simp; omega)) _
  have nA : Wf.heap[w.heap.size]? = some (.cells #[.int .i64 n, .slice aa al ac] 24) := by
    rw [hWf]
    exact (Below.heap_alloc _ _ _ (by first | (simp; done) | (simp; omega))).trans ((Below.heap_alloc _ _ _ (by first | (simp; done) | (simp; omega))).trans ((Below.heap_alloc _ _ _ (by first | (simp; done) | (simp; omega))).trans ((Below.heap_alloc _ _ _ (by simp)).trans (heap_alloc_new w _))))
  have nB : Wf.heap[w.heap.size + 1]? = some (.cells #[.int .i64 n', .slice ba bl bc] 24) := by
    rw [hWf]
    have := heap_alloc_new (w.alloc (.cells #[.int .i64 n, .slice aa al ac] 24)) (.cells #[.int .i64 n', .slice ba bl bc] 24)
    rw [World.size_alloc] at this
    exact (Below.heap_alloc _ _ _ (by first | (simp; done) | (simp; omega))).trans ((Below.heap_alloc _ _ _ (by first | (simp; done) | (simp; omega))).trans ((Below.heap_alloc _ _ _ (by simp)).trans this))
  have nK : Wf.heap[w.heap.size + 1 + 1]? = some (.cells #[.func (.func K) #[] #[]] 67) := by
    rw [hWf]
    have := heap_alloc_new ((w.alloc (.cells #[.int .i64 n, .slice aa al ac] 24)).alloc (.cells #[.int .i64 n', .slice ba bl bc] 24)) (.cells #[.func (.func K) #[] #[]] 67)
    rw [World.size_alloc, World.size_alloc] at this
    exact (Below.heap_alloc _ _ _ (by first | (simp; done) | (simp; omega))).trans ((Below.heap_alloc _ _ _ (by simp)).trans this)
  have nF : Wf.heap[w.heap.size + 1 + 1 + 1 + 1]? = some (.cells #[.func (.func 63) #[] #[]] 104) := by
    rw [hWf]
    have := heap_alloc_new ((((w.alloc (.cells #[.int .i64 n, .slice aa al ac] 24)).alloc (.cells #[.int .i64 n', .slice ba bl bc] 24)).alloc (.cells #[.func (.func K) #[] #[]] 67)).alloc
      (.cells #[.int .i64 n, .int .i64 0, .int .i64 0, .string ⟨#[]⟩, .func (.func 64) #[] #[.pointer (some ⟨w.heap.size + 1 + 1 + 1 + 1, 0, none⟩), .pointer (some ⟨w.heap.size, 0, none⟩), .pointer (some ⟨w.heap.size + 1, 0, none⟩), .pointer (some ⟨w.heap.size + 1 + 1, 0, none⟩)]] 65)) (.cells #[.func (.func 63) #[] #[]] 104)
    simpa only [World.size_alloc] using this
  refine bodyPost_ret (v := .agg #[.int .i64 n, .int .i64 0, .int .i64 0, .string ⟨#[]⟩, .func (.func 64) #[] #[.pointer (some ⟨w.heap.size + 1 + 1 + 1 + 1, 0, none⟩), .pointer (some ⟨w.heap.size, 0, none⟩), .pointer (some ⟨w.heap.size + 1, 0, none⟩), .pointer (some ⟨w.heap.size + 1 + 1, 0, none⟩)]]) (by simp [results, Tryz.results30, go_sem]) rfl ?_
  rw [← hWf]
  exact ⟨_, _, _, _, rfl, nF, nK, nA, nB, hbf⟩
end Go.Proofs.YtiiiegflobihjaaGreat

/- combine.Then: the stages, plain lists. -/
namespace Go.Proofs.YtiiiegflobihjaaGreat

/-- Faulty processes of both. -/
def orI (a b : Int) : Int := ((a.toNat ||| b.toNat : Nat) : Int)
def uniR (f : Int) (r : List Int) : List Int := r.take 6 ++ [orI (r.getD 6 0) f]
def unM (f : Int) (m : List Int) : List Int := uniR f (rdOf m)
def thMs (bz : List (List (List Int))) (set : List Nat) : List (List Int) := set.flatMap fun s => bz.getD s []
def thTo (f : Int) (ms : List (List Int)) (r : List Int) : List Nat := (ms.filter fun m => decide (unM f m = r)).map mvTo
def thTx (l : List Nat) : List Nat := (List.range 256).filter fun s => decide (s ∈ l)
def thRs (f : Int) (ms : List (List Int)) : List (List Int) := lets (ms.map (unM f))
def thSq (bz : List (List (List Int))) (k f : Int) (set : List Nat) : List (List Int × Nd) := (thRs f (thMs bz set)).map fun r => (r, (k, f, thTx (thTo f (thMs bz set) r)))
def thF (k : Int) (x : Nd) (m : List Int) : List Int × Nd := (rdOf m, if x.1 + 1 = k then (k, (rdOf m).getD 6 0, [0]) else (x.1 + 1, (mvTo m : Int), []))
/-- The arrows of a stage. -/
def thSt (az bz : List (List (List Int))) (k : Int) (x : Nd) : List (List Int × Nd) := if x.2.2 = [] then (az.getD x.2.1.toNat []).map (thF k x) else thSq bz k x.2.1 x.2.2
def thFs (k : Int) : Nd := if k = 0 then (0, 0, [0]) else nd0
def thA (az bz : List (List (List Int))) (k : Int) : Option (List (List (List Int))) := (exG (thSt az bz k) 300 0 [thFs k] []).getD none
theorem thA_eq (az bz : List (List (List Int))) (k : Int) : exG (thSt az bz k) 300 0 [thFs k] [] = some (thA az bz k) := by
  obtain ⟨R, hR⟩ := exG_some (thSt az bz k) 300 0 [thFs k] [] (by simp) (by omega) (by omega)
  rw [thA, hR]; rfl

theorem orI_le {a b : Int} (ha : 0 ≤ a ∧ a ≤ 31) (hb : 0 ≤ b ∧ b ≤ 31) : 0 ≤ orI a b ∧ orI a b ≤ 31 := by
  have h := Nat.or_lt_two_pow (n := 5) (x := a.toNat) (y := b.toNat) (by omega) (by omega)
  unfold orI
  omega
theorem uniR_len {f : Int} {r : List Int} (h : r.length = 7) : (uniR f r).length = 7 := by simp [uniR, h]
theorem uniR_all {f : Int} {r : List Int} (hf : 0 ≤ f ∧ f ≤ 31) (h : r.length = 7) (ha : ∀ x ∈ r, 0 ≤ x ∧ x ≤ 31) : ∀ x ∈ uniR f r, 0 ≤ x ∧ x ≤ 31 := fun x hx => by
  rcases List.mem_append.1 hx with hx | hx
  · exact ha x (List.mem_of_mem_take hx)
  · obtain rfl := List.mem_singleton.1 hx
    refine orI_le (ha _ ?_) hf
    rw [getD_eq (by omega)]; exact List.getElem_mem _
theorem thTx_mem (l : List Nat) (s : Nat) : s ∈ thTx l ↔ s < 256 ∧ s ∈ l := by simp [thTx]
theorem thTx_asc (l : List Nat) : (thTx l).Pairwise (· < ·) := List.Pairwise.filter _ List.pairwise_lt_range
theorem asc_len : ∀ {l : List Nat} {b n : Nat}, l.Pairwise (· < ·) → (∀ x ∈ l, b ≤ x ∧ x < n) → l.length ≤ n - b
  | [], _, _, _, _ => by simp
  | a :: l, b, n, h, hm => by
    rw [List.pairwise_cons] at h
    have ha := hm a (by simp)
    have := asc_len (b := a + 1) (n := n) h.2 fun x hx => ⟨h.1 x hx, (hm x (by simp [hx])).2⟩
    simp only [List.length_cons]; omega

/-- Small well-formed states. -/
structure AdS (ss : List (List (List Int))) : Prop where
  ok : AdOK ss
  len : ss.length ≤ 8
  mv : movesN ss ≤ 40
  rd : ∀ s ∈ ss, ∀ m ∈ s, ∀ x ∈ rdOf m, 0 ≤ x ∧ x ≤ 31
theorem AdS.all {ss : List (List (List Int))} (h : AdS ss) (s : Nat) : (ss.getD s []).length ≤ 40 ∧ ∀ m ∈ ss.getD s [], m.length = 8 ∧ (rdOf m).length = 7 ∧ (0 ≤ m.getD 7 0 ∧ m.getD 7 0 < (ss.length : Int)) ∧ mvTo m < ss.length ∧ ∀ x ∈ rdOf m, 0 ≤ x ∧ x ≤ 31 := by
  by_cases hs : s < ss.length
  · rw [getD_eq hs]
    have hm := List.getElem_mem hs
    refine ⟨Nat.le_trans (mem_movesN hm) h.mv, fun m hmm => ?_⟩
    obtain ⟨h1, h2, h3⟩ := (h.ok.st _ hm).2.2.2 m hmm
    exact ⟨h1, by rw [rdOf, List.length_take]; omega, ⟨h2, h3⟩, by unfold mvTo; omega, h.rd _ hm m hmm⟩
  · rw [List.getD_eq_getElem?_getD, List.getElem?_eq_none (by omega)]
    exact ⟨by simp, fun m hm => by simp at hm⟩
/-- Stages that are met. -/
def PT (az bz : List (List (List Int))) (k : Int) (x : Nd) : Prop :=
  (x.2.2 = [] ∧ (0 ≤ x.1 ∧ x.1 < k) ∧ 0 ≤ x.2.1 ∧ x.2.1 < (az.length : Int)) ∨
  (x.2.2 ≠ [] ∧ x.1 = k ∧ (0 ≤ x.2.1 ∧ x.2.1 ≤ 31) ∧ x.2.2.Pairwise (· < ·) ∧ ∀ s ∈ x.2.2, s < bz.length)
theorem thMs_all {bz : List (List (List Int))} (hB : AdS bz) (set : List Nat) : ∀ m ∈ thMs bz set, m.length = 8 ∧ (rdOf m).length = 7 ∧ (0 ≤ m.getD 7 0 ∧ m.getD 7 0 < (bz.length : Int)) ∧ mvTo m < bz.length ∧ ∀ x ∈ rdOf m, 0 ≤ x ∧ x ≤ 31 := fun m hm => by
  obtain ⟨s, _, hm⟩ := List.mem_flatMap.1 hm
  exact (hB.all s).2 m hm
theorem thMs_len {bz : List (List (List Int))} (hB : AdS bz) : ∀ set : List Nat, (thMs bz set).length ≤ 40 * set.length
  | [] => by simp [thMs]
  | s :: set => by
    have h := thMs_len hB set
    have h1 := (hB.all s).1
    simp only [thMs, List.flatMap_cons, List.length_append, List.length_cons] at h ⊢
    omega
theorem PT.setLen {az bz : List (List (List Int))} {k : Int} {x : Nd} (hB : AdS bz) (h : PT az bz k x) : x.2.2.length ≤ 8 := by
  rcases h with ⟨h, _⟩ | ⟨_, _, _, h1, h2⟩
  · rw [h]; simp
  · have := asc_len (b := 0) (n := bz.length) h1 fun s hs => ⟨Nat.zero_le _, h2 s hs⟩
    have := hB.len
    omega
theorem thMs_320 {az bz : List (List (List Int))} {k : Int} {x : Nd} (hB : AdS bz) (h : PT az bz k x) : (thMs bz x.2.2).length ≤ 320 := by
  have := thMs_len hB x.2.2
  have := h.setLen hB
  omega
theorem thMs_pos {bz : List (List (List Int))} {set : List Nat} (hB : AdS bz) (h0 : set ≠ []) (hs : ∀ s ∈ set, s < bz.length) : 0 < (thMs bz set).length := by
  obtain ⟨a, set, rfl⟩ := List.exists_cons_of_ne_nil h0
  have ha := hs a (by simp)
  have h1 := (hB.ok.st _ (List.getElem_mem ha)).1
  simp only [thMs, List.flatMap_cons, List.length_append, getD_eq ha]
  omega
theorem thTo_lt {bz : List (List (List Int))} (hB : AdS bz) {set : List Nat} {f : Int} {r : List Int} : ∀ s ∈ thTo f (thMs bz set) r, s < bz.length := fun s hs => by
  obtain ⟨m, hm, rfl⟩ := List.mem_map.1 hs
  exact (thMs_all hB set m (List.mem_filter.1 hm).1).2.2.2.1
theorem thTo_len (f : Int) (ms : List (List Int)) (r : List Int) : (thTo f ms r).length ≤ ms.length := by
  rw [thTo, List.length_map]; exact List.length_filter_le _ _
theorem thTo_pos {f : Int} {ms : List (List Int)} {r : List Int} (h : r ∈ thRs f ms) : thTo f ms r ≠ [] := by
  obtain ⟨m, hm, rfl⟩ := List.mem_map.1 ((lets_mem _ _).1 h)
  exact List.ne_nil_of_mem (List.mem_map.2 ⟨m, List.mem_filter.2 ⟨hm, by simp⟩, rfl⟩)
theorem thRs_all {bz : List (List (List Int))} (hB : AdS bz) {set : List Nat} {f : Int} (hf : 0 ≤ f ∧ f ≤ 31) : ∀ r ∈ thRs f (thMs bz set), r.length = 7 ∧ ∀ x ∈ r, 0 ≤ x ∧ x ≤ 31 := fun r hr => by
  obtain ⟨m, hm, rfl⟩ := List.mem_map.1 ((lets_mem _ _).1 hr)
  obtain ⟨_, h7, _, _, ha⟩ := thMs_all hB set m hm
  exact ⟨uniR_len h7, uniR_all hf h7 ha⟩
theorem thRs_len (f : Int) (ms : List (List Int)) : (thRs f ms).length ≤ ms.length := by
  have := lets_len (ms.map (unM f))
  rwa [List.length_map] at this
theorem PT.first {az bz : List (List (List Int))} {k : Int} (hA : AdS az) (hB : AdS bz) (hk : 0 ≤ k) : PT az bz k (thFs k) := by
  have := hA.ok.pos
  have := hB.ok.pos
  unfold thFs
  split
  · rename_i h
    exact .inr ⟨by simp, h.symm, ⟨by simp, by simp⟩, by simp, by simpa using hB.ok.pos⟩
  · refine .inl ⟨rfl, ⟨?_, ?_⟩, ?_, ?_⟩ <;> simp only [nd0] <;> omega
/-- What is behind a stage that is met is met. -/
theorem thSt_ok {az bz : List (List (List Int))} {k : Int} (hA : AdS az) (hB : AdS bz) {x : Nd} (hx : PT az bz k x) : (∀ a ∈ thSt az bz k x, PT az bz k a.2 ∧ a.1.length = 7) ∧ (thSt az bz k x).length ≤ 320 := by
  have hx' := hx
  rcases hx with ⟨h0, hk, h1⟩ | ⟨h0, hk, hf, ha, hs⟩
  · rw [thSt, if_pos h0]
    obtain ⟨h2, h3⟩ := hA.all x.2.1.toNat
    refine ⟨fun a ham => ?_, by rw [List.length_map]; omega⟩
    obtain ⟨m, hm, rfl⟩ := List.mem_map.1 ham
    obtain ⟨_, m2, _, m4, m5⟩ := h3 m hm
    refine ⟨?_, m2⟩
    unfold thF
    by_cases he : x.1 + 1 = k
    · simp only [if_pos he]
      refine .inr ⟨by simp, rfl, m5 _ ?_, by simp, by simpa using hB.ok.pos⟩
      rw [getD_eq (by omega)]; exact List.getElem_mem _
    · simp only [if_neg he]
      refine .inl ⟨rfl, ⟨?_, ?_⟩, ?_, ?_⟩ <;> simp only <;> omega
  · rw [thSt, if_neg h0]
    refine ⟨fun a ham => ?_, ?_⟩
    · obtain ⟨r, hr, rfl⟩ := List.mem_map.1 ham
      refine ⟨.inr ⟨?_, rfl, hf, thTx_asc _, fun s hsm => thTo_lt hB s ((thTx_mem _ _).1 hsm).2⟩, (thRs_all hB hf r hr).1⟩
      intro he
      obtain ⟨s, hsm⟩ := List.exists_mem_of_ne_nil _ (thTo_pos hr)
      have h8 := thTo_lt hB s hsm
      have := hB.len
      have hm := (thTx_mem _ _).2 ⟨by omega, hsm⟩
      simp only at he
      rw [he] at hm
      cases hm
    · rw [thSq, List.length_map]
      exact Nat.le_trans (thRs_len _ _) (thMs_320 hB hx')
theorem PT.sm {az bz : List (List (List Int))} {k : Int} {x : Nd} (hA : AdS az) (hB : AdS bz) (hk : 0 ≤ k ∧ k ≤ 1000) (hx : PT az bz k x) : SmN x := by
  have h1 := hx.setLen hB
  have := hA.len
  have := hB.len
  rcases hx with ⟨h0, hk, h1⟩ | ⟨h0, hk, hf, ha, hs⟩
  · exact ⟨by omega, by omega, by rw [h0]; simp, by rw [h0]; simp⟩
  · exact ⟨by omega, by omega, by omega, fun s hsm => by have := hs s hsm; omega⟩
theorem wf31 {r : List Int} (hl : r.length = 7) (h : chkRd r = 0) : ∀ x ∈ r, 0 ≤ x ∧ x ≤ 31 := by
  obtain ⟨n, h0, h1, h2, h3, h4, f, rfl⟩ := seven hl
  have hg : chkGr n [h0, h1, h2, h3, h4] = 0 := by
    by_cases hc : chkGr n [h0, h1, h2, h3, h4] = 0
    · exact hc
    · rw [chkRd_1 hc] at h; exact h
  obtain ⟨hn, hh⟩ := chkGr_zero hg
  obtain ⟨_, hf0, hf1⟩ := chkSet_zero (chkRd_zero h)
  have h32 := twoI_le (n := n)
  intro x hx
  simp only [List.mem_cons, List.not_mem_nil, or_false] at hx
  have hf0 : 0 ≤ f := hf0
  have hf1 : f < twoI n := hf1
  rcases hx with rfl | hx
  · omega
  rcases hx with rfl | rfl | rfl | rfl | rfl | rfl
  · exact hh x (by simp)
  · exact hh x (by simp)
  · exact hh x (by simp)
  · exact hh x (by simp)
  · exact hh x (by simp)
  · omega
theorem adS_of {n : Int} {ss : List (List (List Int))} (h8 : ∀ s ∈ ss, ∀ m ∈ s, m.length = 8) (h : chkA n ss = 0) (hl : ss.length ≤ 8) (hm : movesN ss ≤ 40) : AdS ss := by
  refine ⟨adOK_of h8 h fun s hs => by have := mem_movesN hs; omega, hl, hm, fun s hs m hmm => ?_⟩
  obtain ⟨_, _, h3, _⟩ := chkA_facts h
  have h4 := ssGo_zero h3 s hs
  unfold stErr at h4
  by_cases he : s.length = 0
  · rw [if_pos he] at h4; cases h4
  rw [if_neg he] at h4
  obtain ⟨j, hj, rfl⟩ := List.mem_iff_getElem.1 hmm
  obtain ⟨c1, _, _, _, _⟩ := mvErr_zero (mvGo_zero h4 j (by omega) (by omega))
  rw [getD_eq hj] at c1
  exact wf31 (by rw [rdOf, List.length_take, h8 s hs _ hmm]; rfl) c1
end Go.Proofs.YtiiiegflobihjaaGreat

/- Maps whose entries are rows of numbers: an entry is read and stored in one statement; the table of rows of combine.sequel. -/
namespace Go.Proofs.YtiiiegflobihjaaGreat
open Go.RowKit Go.ChangeMaps Go.MapKept Go.WideMaps

section
variable {κ : Type}
/-- Block b is the map that holds the pairs of m; its entries have stamps of their own. -/
def MS (kv : κ → Value) (w : World) (b : Nat) (m : List (κ × Value)) : Prop :=
  ∃ es clock, w.heap[b]? = some (.map es clock) ∧ es.toList.map (fun e => (e.key, e.val)) = m.map (fun p => (kv p.1, p.2)) ∧ (es.toList.map (·.born)).Nodup ∧ ∀ e ∈ es.toList, e.born < clock
variable {P : Program} {K E M : TypeId} {kv : κ → Value} {S : κ → Prop} {m : List (κ × Value)} {x : κ} {w : World} {b : Nat}
theorem MS.mx (h : MS kv w b m) : MX kv (id : Value → Value) w b m := by
  obtain ⟨es, c, h1, h2, _⟩ := h; exact ⟨es, c, h1, h2⟩
theorem MS.lt (h : MS kv w b m) : b < w.heap.size := h.mx.lt
theorem MS.keep {w' : World} (h : MS kv w b m) (hb : w'.heap[b]? = w.heap[b]?) : MS kv w' b m := by
  obtain ⟨es, clock, h1, h2⟩ := h; exact ⟨es, clock, hb.trans h1, h2⟩
theorem MS.made (w : World) : MS kv (w.alloc (.map #[] 0)) w.heap.size [] := ⟨#[], 0, heap_alloc_new w _, rfl, by simp, by simp⟩
/-- m[x] = f(m[x]). -/
theorem MS.entry {z : Value} (hX : KeyX P K kv S) (hM : P.underlying M = some (.map K E)) (hz : ∀ u : World, (zeroValue E).run P u = .ok z u) (h : MS kv w b m) (hm : ∀ p ∈ m, S p.1) (hx : S x) :
    ∃ (v0 : Value) (st : Nat) (es1 : Array MapEntry) (c1 : Nat), (Instr.mapEntry M (.map (some b)) (kv x)).run P w = .ok (.tuple #[v0, goInt st]) (setBlock w b (.map es1 c1)) ∧
      ((x ∉ m.map Prod.fst ∧ v0 = z ∧ ∀ (w2 : World) (val : Value), w2.heap[b]? = some (.map es1 c1) → ∃ es2 c2, (Instr.entryStore M (.map (some b)) (goInt st) val).run P w2 = .ok () (setBlock w2 b (.map es2 c2)) ∧ MS kv (setBlock w2 b (.map es2 c2)) b (m ++ [(x, val)])) ∨
       (∃ j, m[j]? = some (x, v0) ∧ ∀ (w2 : World) (val : Value), w2.heap[b]? = some (.map es1 c1) → ∃ es2 c2, (Instr.entryStore M (.map (some b)) (goInt st) val).run P w2 = .ok () (setBlock w2 b (.map es2 c2)) ∧ MS kv (setBlock w2 b (.map es2 c2)) b (m.set j (x, val)))) := by
  obtain ⟨es, clock, hb, hk, s2, s1⟩ := h
  obtain ⟨lx, hlx⟩ := hX.has x hx
  have hc := hX.law.check w false hlx
  have hfi := MX.find (vv := (id : Value → Value)) hX hm hx hk w
  rcases hfi with ⟨h1, h2⟩ | ⟨j, v, h1, h2, h3⟩
  · refine ⟨z, clock, es.push ⟨kv x, z, clock⟩, clock + 1, ?_, .inl ⟨h1, rfl, fun w2 val hw2 => ⟨es.push ⟨kv x, val, clock⟩, clock + 1, ?_, _, _, heap_setBlock_same hw2 _, ?_, ?_, ?_⟩⟩⟩
    · simp [Instr.mapEntry, run_underlying hM, MapKept.run_getObj_map hb, hc, h2, hz, MapKept.run_setObj_map _ hb, Result.andThen, setBlock]
    · have hidx : (es.push ⟨kv x, z, clock⟩).findIdx? (fun e => ((e.born : Nat) : Int) == ((clock : Nat) : Int)) = some es.size := by
        rw [Go.WideElems.findIdx_arr]
        exact Go.WideElems.findIdx_born (l := (es.push ⟨kv x, z, clock⟩).toList) (j := es.size) (e0 := ⟨kv x, z, clock⟩) (by
          simp only [Array.toList_push, List.map_append, List.map_cons, List.map_nil]
          refine List.nodup_append.2 ⟨s2, by simp, fun a ha c hc e1 => ?_⟩
          simp only [List.mem_singleton] at hc
          obtain ⟨y, hy, rfl⟩ := List.mem_map.1 ha
          have := s1 y hy
          omega) (by simp)
      have hmod : (es.push ⟨kv x, z, clock⟩).modify es.size (fun e => { e with val := val }) = es.push ⟨kv x, val, clock⟩ := by
        apply Array.ext'
        rw [Array.toList_modify, Array.toList_push, Array.toList_push, ← Array.length_toList, Go.WideElems.modify_last]
      simp [Instr.entryStore, MapKept.run_getObj_map hw2, asInt, asIntOf, goInt, hidx, hmod, MapKept.run_setObj_map _ hw2, Result.andThen, setBlock]
    · rw [Array.toList_push, List.map_append, hk, List.map_append]; rfl
    · rw [Array.toList_push, List.map_append]
      refine List.nodup_append.2 ⟨s2, by simp, fun a ha c hc e1 => ?_⟩
      simp only [List.map_cons, List.map_nil, List.mem_singleton] at hc
      obtain ⟨y, hy, rfl⟩ := List.mem_map.1 ha
      have := s1 y hy
      omega
    · intro e he
      rw [Array.toList_push] at he
      rcases List.mem_append.1 he with he | he
      · have := s1 e he; omega
      · obtain rfl := List.mem_singleton.1 he
        exact Nat.lt_succ_self _
  · have hl : (es.toList.map (fun e : MapEntry => (e.key, e.val)))[j]? = some (kv x, v) := by rw [hk, List.getElem?_map, h3]; rfl
    rw [List.getElem?_map] at hl
    obtain ⟨e0, h4, h5⟩ : ∃ e0, es.toList[j]? = some e0 ∧ (e0.key, e0.val) = (kv x, v) := by
      cases he : es.toList[j]? with
      | none => rw [he] at hl; cases hl
      | some e0 => rw [he] at hl; exact ⟨e0, rfl, Option.some.inj hl⟩
    injection h5 with h5 h6
    have hj : es[j]? = some e0 := by simpa using h4
    have hsame : es.modify j (fun e => { e with key := kv x }) = es := by
      apply Array.ext'
      rw [Array.toList_modify, modify_eq_set _ _ _ _ h4]
      have : ({ e0 with key := kv x } : MapEntry) = e0 := by rw [← h5]
      rw [this]
      exact Go.WideElems.set_self _ _ _ h4
    have htl : ∀ val, (es.modify j (fun e' => { e' with key := kv x, val := val })).toList = es.toList.set j { e0 with key := kv x, val := val } := fun val => by
      rw [Array.toList_modify, modify_eq_set _ _ _ _ h4]
    refine ⟨v, e0.born, es, clock, ?_, .inr ⟨j, h3, fun w2 val hw2 => ⟨es.modify j (fun e' => { e' with key := kv x, val := val }), clock, ?_, _, _, heap_setBlock_same hw2 _, ?_, ?_, ?_⟩⟩⟩
    · have h2' : (Instr.findKey K (kv x) es.toList).run P w = .ok (some (j, v)) w := h2
      simp [Instr.mapEntry, run_underlying hM, MapKept.run_getObj_map hb, hc, h2', hj, h5, hX.law.stays w hlx, hsame, MapKept.run_setObj_map _ hb, Result.andThen, setBlock]
    · have hidx : es.findIdx? (fun e => ((e.born : Nat) : Int) == ((e0.born : Nat) : Int)) = some j := by
        rw [Go.WideElems.findIdx_arr]
        exact Go.WideElems.findIdx_born s2 h4
      have hmod : es.modify j (fun e => { e with val := val }) = es.modify j (fun e' => { e' with key := kv x, val := val }) := by
        apply Array.ext'
        rw [Array.toList_modify, Array.toList_modify, modify_eq_set _ _ _ _ h4, modify_eq_set _ _ _ _ h4, ← h5]
      simp [Instr.entryStore, MapKept.run_getObj_map hw2, asInt, asIntOf, goInt, hidx, hmod, MapKept.run_setObj_map _ hw2, Result.andThen, setBlock]
    · rw [htl, List.map_set, hk, List.map_set]
    · rw [htl, List.map_set]
      have : (es.toList.map (·.born)).set j e0.born = es.toList.map (·.born) := Go.WideElems.set_self _ _ _ (by rw [List.getElem?_map, h4]; rfl)
      rw [this]
      exact s2
    · intro e he
      rw [htl] at he
      rcases List.mem_or_eq_of_mem_set he with he | rfl
      · exact s1 e he
      · exact s1 e0 (List.mem_of_getElem? h4)
end

theorem thTo_snoc (f : Int) (ms : List (List Int)) (a r : List Int) : thTo f (ms ++ [a]) r = thTo f ms r ++ (if unM f a = r then [mvTo a] else []) := by
  rw [thTo, thTo, List.filter_append, List.map_append]
  by_cases h : unM f a = r <;> simp [h]
theorem thTo_none {f : Int} {ms : List (List Int)} {r : List Int} (h : ∀ x ∈ ms, unM f x ≠ r) : thTo f ms r = [] := by
  rw [thTo, List.filter_eq_nil_iff.2 (fun x hx => by simpa using h x hx)]; rfl
theorem natI_appD (a b : List Nat) : natI (a ++ b) = natI a ++ natI b := List.map_append
/-- The rows of the table: for each round the states to which the moves with it lead. -/
structure RowT (w : World) (B : Nat) (f : Int) (ms : List (List Int)) (m : List (List Int × Value)) : Prop where
  one : ∀ (i j : Nat) (p q : List Int × Value), m[i]? = some p → m[j]? = some q → p.1 = q.1 → i = j
  has : ∀ x ∈ ms, unM f x ∈ m.map Prod.fst
  row : ∀ (i : Nat) (p : List Int × Value), m[i]? = some p → p.1 ∈ ms.map (unM f) ∧ OI w B p.2 (thTo f ms p.1).length (natI (thTo f ms p.1))
  apart : ∀ (i j : Nat) (p q : List Int × Value), i ≠ j → m[i]? = some p → m[j]? = some q → Apart p.2 q.2
variable {w w' : World} {B : Nat} {f : Int} {ms : List (List Int)} {m : List (List Int × Value)}
theorem RowT.nil (w : World) (B : Nat) (f : Int) : RowT w B f [] [] := ⟨by simp, by simp, by simp, by simp⟩
theorem RowT.keep (h : RowT w B f ms m) (hb : Below w.heap.size w w') : RowT w' B f ms m := ⟨h.one, h.has, fun i p hp => ⟨(h.row i p hp).1, (h.row i p hp).2.keep hb⟩, h.apart⟩
theorem RowT.other {E : TypeId} (h : RowT w B f ms m) (hne : 3 ≠ E) (hx : KeepX E w w') : RowT w' B f ms m := ⟨h.one, h.has, fun i p hp => ⟨(h.row i p hp).1, (h.row i p hp).2.other hne hx⟩, h.apart⟩
theorem RowT.new {a : List Int} {v' : Value} (h : RowT w B f ms m) (hx : unM f a ∉ m.map Prod.fst) (hg : w.grownBy w' (Value.slice none 0 0).ownBlock) (hn : NewAt w (.slice none 0 0) v') (hv : OI w' B v' 1 [(mvTo a : Int)]) :
    RowT w' B f (ms ++ [a]) (m ++ [(unM f a, v')]) := by
  have hkey : ∀ (i : Nat) (p : List Int × Value), m[i]? = some p → unM f a ≠ p.1 := fun i p hp e => hx (e ▸ List.mem_map_of_mem (f := Prod.fst) (List.mem_of_getElem? hp))
  have hsp : ∀ (i : Nat) (p : List Int × Value), (m ++ [(unM f a, v')])[i]? = some p → m[i]? = some p ∨ (i = m.length ∧ p = (unM f a, v')) := fun i p hp => by
    by_cases hi : i < m.length
    · rw [List.getElem?_append_left hi] at hp; exact .inl hp
    · rw [List.getElem?_append_right (by omega)] at hp
      have h0 : i - m.length = 0 := by have := (List.getElem?_eq_some_iff.1 hp).1; simpa using this
      rw [h0] at hp
      simp only [List.getElem?_cons_zero, Option.some.injEq] at hp
      exact .inr ⟨by omega, hp.symm⟩
  have hlen : ∀ (i : Nat) (p : List Int × Value), m[i]? = some p → i < m.length := fun i p hp => (List.getElem?_eq_some_iff.1 hp).1
  have hap : ∀ (i : Nat) (p : List Int × Value), m[i]? = some p → Apart p.2 v' := fun i p hp b c hb hc e => by
    have hl := World.ownsRow.lt (h.row i p hp).2 b hb
    rcases hn with hn | hn
    · rw [hn] at hc; cases hc
    · rw [hn] at hc
      simp only [Option.some.injEq] at hc
      omega
  refine ⟨fun i j p q hp hq hpq => ?_, fun x hxm => ?_, fun i p hp => ?_, fun i j p q hij hp hq => ?_⟩
  · rcases hsp i p hp with hp | ⟨rfl, rfl⟩
    · rcases hsp j q hq with hq | ⟨rfl, rfl⟩
      · exact h.one i j p q hp hq hpq
      · exact absurd hpq.symm (hkey i p hp)
    · rcases hsp j q hq with hq | ⟨rfl, rfl⟩
      · exact absurd hpq (hkey j q hq)
      · rfl
  · rw [List.map_append, List.mem_append]
    rcases List.mem_append.1 hxm with hxm | hxm
    · exact .inl (h.has x hxm)
    · obtain rfl := List.mem_singleton.1 hxm
      exact .inr (by simp)
  · rcases hsp i p hp with hp | ⟨rfl, rfl⟩
    · obtain ⟨h1, h2⟩ := h.row i p hp
      refine ⟨by rw [List.map_append]; exact List.mem_append_left _ h1, ?_⟩
      rw [thTo_snoc, if_neg (hkey i p hp), List.append_nil]
      refine h2.kept hg ?_
      by_cases hnn : p.2.ownBlock = none
      · exact .inl hnn
      · exact .inr hnn
    · refine ⟨by rw [List.map_append]; exact List.mem_append_right _ (by simp), ?_⟩
      rw [thTo_snoc, if_pos rfl, thTo_none (r := unM f a) (fun x hxm e => by have h3 := h.has x hxm; rw [e] at h3; exact hx h3)]
      exact hv
  · rcases hsp i p hp with hp | ⟨rfl, rfl⟩
    · rcases hsp j q hq with hq | ⟨rfl, rfl⟩
      · exact h.apart i j p q hij hp hq
      · exact hap i p hp
    · rcases hsp j q hq with hq | ⟨rfl, rfl⟩
      · exact (hap j q hq).symm
      · exact absurd rfl hij
theorem RowT.old {a : List Int} {v v' : Value} {j : Nat} (h : RowT w B f ms m) (hj : m[j]? = some (unM f a, v)) (hg : w.grownBy w' v.ownBlock) (hn : NewAt w v v')
    (hv : OI w' B v' ((thTo f ms (unM f a)).length + 1) (natI (thTo f ms (unM f a)) ++ [(mvTo a : Int)])) : RowT w' B f (ms ++ [a]) (m.set j (unM f a, v')) := by
  have hjl : j < m.length := (List.getElem?_eq_some_iff.1 hj).1
  have hsp : ∀ (i : Nat) (p : List Int × Value), (m.set j (unM f a, v'))[i]? = some p → (i ≠ j ∧ m[i]? = some p) ∨ (i = j ∧ p = (unM f a, v')) := fun i p hp => by
    rw [List.getElem?_set] at hp
    split at hp
    · rename_i e
      subst e
      first | rw [if_pos hjl] at hp | skip
      exact .inr ⟨rfl, (Option.some.inj hp).symm⟩
    · rename_i e
      exact .inl ⟨fun e2 => e e2.symm, hp⟩
  have hkey : ∀ (i : Nat) (p : List Int × Value), i ≠ j → m[i]? = some p → unM f a ≠ p.1 := fun i p hi hp e => hi (h.one i j p _ hp hj e.symm)
  have hap : ∀ (i : Nat) (p : List Int × Value), i ≠ j → m[i]? = some p → Apart p.2 v' := fun i p hi hp b c hb hc e => by
    have hl := World.ownsRow.lt (h.row i p hp).2 b hb
    rcases hn with hn | hn
    · rw [hn] at hc; exact h.apart i j p _ hi hp hj b c hb hc e
    · rw [hn] at hc
      simp only [Option.some.injEq] at hc
      omega
  refine ⟨fun i k p q hp hq hpq => ?_, fun x hxm => ?_, fun i p hp => ?_, fun i k p q hik hp hq => ?_⟩
  · rcases hsp i p hp with ⟨hi, hp'⟩ | ⟨hi, hp'⟩
    · rcases hsp k q hq with ⟨hk, hq'⟩ | ⟨hk, hq'⟩
      · exact h.one i k p q hp' hq' hpq
      · rw [hq'] at hpq; exact absurd hpq.symm (hkey i p hi hp')
    · rcases hsp k q hq with ⟨hk, hq'⟩ | ⟨hk, hq'⟩
      · rw [hp'] at hpq; exact absurd hpq (hkey k q hk hq')
      · rw [hi, hk]
  · have hmem : ∀ y, y ∈ m.map Prod.fst → y ∈ (m.set j (unM f a, v')).map Prod.fst := fun y hy => by
      rw [List.map_set, Go.WideElems.set_self _ _ _ (by rw [List.getElem?_map, hj]; rfl)]; exact hy
    rcases List.mem_append.1 hxm with hxm | hxm
    · exact hmem _ (h.has x hxm)
    · obtain rfl := List.mem_singleton.1 hxm
      exact hmem _ (List.mem_map_of_mem (f := Prod.fst) (List.mem_of_getElem? hj))
  · rcases hsp i p hp with ⟨hi, hp⟩ | ⟨rfl, rfl⟩
    · obtain ⟨h1, h2⟩ := h.row i p hp
      refine ⟨by rw [List.map_append]; exact List.mem_append_left _ h1, ?_⟩
      rw [thTo_snoc, if_neg (hkey i p hi hp), List.append_nil]
      exact h2.kept hg (h.apart i j p _ hi hp hj).ne
    · refine ⟨by rw [List.map_append]; exact List.mem_append_right _ (by simp), ?_⟩
      simp only
      rw [thTo_snoc, if_pos rfl, natI_appD, List.length_append]
      exact hv
  · rcases hsp i p hp with ⟨hi, hp'⟩ | ⟨hi, hp'⟩
    · rcases hsp k q hq with ⟨hk, hq'⟩ | ⟨hk, hq'⟩
      · exact h.apart i k p q hik hp' hq'
      · rw [hq']; exact hap i p hi hp'
    · rcases hsp k q hq with ⟨hk, hq'⟩ | ⟨hk, hq'⟩
      · rw [hp']; exact (hap k q hk hq').symm
      · exact absurd (hi.trans hk.symm) hik
end Go.Proofs.YtiiiegflobihjaaGreat

/- Texts of this claim, put together: It Bu Bv. -/
import Derived.Test.YtfihpofdoffclaaGreatDoorKa
import Derived.Laws.AppendOwnNone
import Derived.RangeFuncNested
import Derived.RangeFuncBound
import Derived.RangeFuncCalls
import Derived.RangeFuncLeaves
import Derived.Lib.Builder
import Derived.Lib.AppendStr
import Derived.Lib.UnsafeStr
import Derived.Lib.Strings
import Derived.Lib.Slices
import Derived.Lib.Walk
import Derived.Laws.Externs
import Derived.Laws.IdiomCopy
import Derived.Shelf.Strings.Builder1

/- Ranging over a function, by footprints: the caller's data lie in blocks that the iterator leaves alone, and the body writes those and new ones only. -/
namespace Go.Proofs.YtfihpofdoffclaaGreatDoor
open Go.RowKit

/-- Of the old blocks only those of D were written. -/
structure Only (D : Nat → Prop) (W W' : World) : Prop where
  os : W'.os = W.os
  tape : W'.tape = W.tape
  output : W'.output = W.output
  size : W.heap.size ≤ W'.heap.size
  same : ∀ k, k < W.heap.size → ¬ D k → W'.heap[k]? = W.heap[k]?
/-- D' is D and new blocks. -/
def Gr (D : Nat → Prop) (W : World) (D' : Nat → Prop) : Prop := ∀ k, D' k → D k ∨ W.heap.size ≤ k
def Bd (D : Nat → Prop) (W : World) : Prop := ∀ k, D k → k < W.heap.size

theorem Only.refl (D : Nat → Prop) (W : World) : Only D W W := ⟨rfl, rfl, rfl, Nat.le_refl _, fun _ _ _ => rfl⟩
theorem Only.trans {D D' : Nat → Prop} {A B C : World} (h : Only D A B) (k : Only D' B C) (hg : Gr D A D') : Only D A C :=
  ⟨k.os.trans h.os, k.tape.trans h.tape, k.output.trans h.output, Nat.le_trans h.size k.size, fun i hi hd =>
    (k.same i (Nat.lt_of_lt_of_le hi h.size) (fun h' => by rcases hg i h' with h' | h'; exact hd h'; omega)).trans (h.same i hi hd)⟩
theorem Only.mono {D D' : Nat → Prop} {A B : World} (h : Only D A B) (hd : ∀ k, D k → D' k) : Only D' A B :=
  ⟨h.os, h.tape, h.output, h.size, fun k hk hn => h.same k hk (fun h' => hn (hd k h'))⟩
theorem Only.below {D : Nat → Prop} {A B : World} (h : Only D A B) {n : Nat} (hn : n ≤ A.heap.size) (hd : ∀ k, D k → n ≤ k) : Below n A B :=
  ⟨h.os, h.tape, h.output, h.size, fun k hk => h.same k (by omega) (fun h' => by have := hd k h'; omega)⟩
theorem Only.of_below {D : Nat → Prop} {A B : World} (h : Below A.heap.size A B) : Only D A B := ⟨h.os, h.tape, h.output, h.size, fun k hk _ => h.block k hk⟩
theorem Only.thenBelow {D : Nat → Prop} {A B C : World} (h : Only D A B) (k : Below A.heap.size B C) : Only D A C :=
  ⟨k.os.trans h.os, k.tape.trans h.tape, k.output.trans h.output, Nat.le_trans h.size k.size, fun i hi hd => (k.block i hi).trans (h.same i hi hd)⟩
theorem Only.setCell {D : Nat → Prop} {A B : World} (h : Only D A B) {p : Addr} (hp : D p.block) (u : Value) : Only D A (B.setCell p u) :=
  ⟨h.os, h.tape, h.output, by simpa [World.setCell] using h.size, fun i hi hd => (Below.heap_setCell B p u i (fun e => hd (e ▸ hp))).trans (h.same i hi hd)⟩
theorem Only.cell {D : Nat → Prop} {A B : World} (h : Only D A B) {p : Addr} {v : Value} (hp : ¬ D p.block) (hc : A.cell? p = some v) : B.cell? p = some v :=
  (World.cell?_of_block (h.same p.block (World.block_lt_of_cell? A p hc) hp)).trans hc
theorem Only.row {D : Nat → Prop} {A B : World} (h : Only D A B) {base : Nat} {e : TypeId} {v : Value} {n : Nat} {xs : List Value} (ho : A.ownsRow base e 1 v n xs) (hp : ∀ b, v.ownBlock = some b → ¬ D b) : B.ownsRow base e 1 v n xs := by
  refine ⟨ho.1, ?_⟩
  rcases ho.2 with h' | ⟨g, cap, cur, h1, h2, h3, h4⟩
  · exact .inl h'
  · exact .inr ⟨g, cap, cur, h1, h2, (h.same g (Array.getElem?_eq_some_iff.1 h3).1 (hp g (by rw [h1]; rfl))).trans h3, h4⟩
theorem Only.drewN {D : Nat → Prop} {A B : World} (h : Only D A B) (n : Nat) : Only D A (B.drewN n) := ⟨h.os, h.tape, h.output, h.size, h.same⟩
theorem below_putObj {B : Nat} {w W : World} (h : Below B w W) {d : Nat} (hd : B ≤ d) (o : Obj) : Below B w (W.putObj d o) :=
  h.trans ⟨rfl, rfl, rfl, by simp, fun k hk => World.putObj_heap_other (by omega)⟩
theorem Gr.refl (D : Nat → Prop) (W : World) : Gr D W D := fun _ h => .inl h
theorem Gr.trans {D D' D'' : Nat → Prop} {A B : World} (h : Gr D A D') (k : Gr D' B D'') (hs : A.heap.size ≤ B.heap.size) : Gr D A D'' := fun i hi => by
  rcases k i hi with h' | h'
  · exact h i h'
  · exact .inr (Nat.le_trans hs h')
theorem Only.putObj {D : Nat → Prop} {W : World} {l : Nat} (hl : D l) (o : Obj) : Only D W (W.putObj l o) :=
  ⟨rfl, rfl, rfl, by simp, fun k _ hk => World.putObj_heap_other (fun e => hk (e ▸ hl))⟩

/-- What holds by the blocks of D alone. -/
def Stable {α : Type} (J : List α → (Nat → Prop) → World → Prop) : Prop :=
  ∀ pre D W W', J pre D W → W.heap.size ≤ W'.heap.size → (∀ k, D k → W'.heap[k]? = W.heap[k]?) → J pre D W'

/-- The contract of an iterator. R: what is known of an element when it is handed over; C: the old blocks that the iterator reads. -/
def SeqOK {α : Type} (P : Program) (g : Nat) (lb : Array Value) (enc : α → Array Value) (R : List α → α → World → Prop) (S Sp : List α → Prop) (N : Nat) (C : Nat → Prop) (w0 : World) : Prop :=
  ∀ (l : Nat) (J Jx : List α → (Nat → Prop) → World → Prop) (D : Nat → Prop) (W : World), Below w0.heap.size w0 W → Bd D W → (∀ k, D k → ¬ C k) → Stable J → Stable Jx →
    (∀ pre x D1 W1, J pre D1 W1 → Bd D1 W1 → Only D W W1 → Gr D W D1 → R pre x W1 → pre.length < N → YieldAt Fence.wide 0 P l (enc x) W1 fun e W' =>
      ∃ D', Only D1 W1 W' ∧ Gr D1 W1 D' ∧ Bd D' W' ∧ ((e = .returned (.bool true) ∧ J (pre ++ [x]) D' W') ∨ (e = .returned (.bool false) ∧ Jx (pre ++ [x]) D' W'))) →
    J [] D W →
    CallsIn Fence.wide 0 P g (#[.func (.yield l) #[] #[]] ++ lb) W fun e W' => (∃ v, e = .returned v) ∧
      ∃ D', Only D W W' ∧ Gr D W D' ∧ Bd D' W' ∧ ((∃ xs, S xs ∧ J xs D' W') ∨ (∃ pre, Sp pre ∧ Jx pre D' W'))

/-- How the body of a round may be left. -/
def bodyQ {α : Type} (I : List α → (Nat → Prop) → World → Prop) (Ix : Code → List α → (Nat → Prop) → World → Prop) (xs : List α) (D : Nat → Prop) (W : World) : Exit → Act → World → Prop
  | .normal, _, W' => ∃ D', Only D W W' ∧ Gr D W D' ∧ Bd D' W' ∧ I xs D' W'
  | .ret, _, W' => ∃ D', Only D W W' ∧ Gr D W D' ∧ Bd D' W' ∧ Ix .ret xs D' W'
  | .exit id, _, W' => ∃ D', Only D W W' ∧ Gr D W D' ∧ Bd D' W' ∧ Ix (.exit id) xs D' W'
  | .goto t, _, W' => ∃ D', Only D W W' ∧ Gr D W D' ∧ Bd D' W' ∧ Ix (.goto t) xs D' W'
  | .panic _, _, _ => False
  | .outgrown, _, _ => False

theorem wpIn_rf {P : Program} {α : Type} {g : Operand} {ps : Array Tmp} {assign body : Code} {Q : Exit → Act → World → Prop} {a : Act} {w : World}
    {gf : Nat} {lb : Array Value} (hg : a.eval g = .func (.func gf) #[] lb) (eg : ∀ args w, (callFunc gf args).run P w = .ok (.enter gf args) w)
    {enc : α → Array Value} {R : List α → α → World → Prop} {S Sp : List α → Prop} {N : Nat} {C : Nat → Prop} {w0 : World} (hseq : SeqOK P gf lb enc R S Sp N C w0)
    (hb0 : Below w0.heap.size w0 w) (hps : ∀ x, (enc x).size = ps.size) (hR : ∀ pre x W k r o, R pre x W → W.heap[k]? = some (.loop r) → R pre x (W.putObj k o))
    (I : List α → (Nat → Prop) → World → Prop) (Ix : Code → List α → (Nat → Prop) → World → Prop) (hI : Stable I) (hIx : ∀ c, Stable (Ix c))
    (D0 : Nat → Prop) (hD0 : Bd D0 w) (hC : ∀ k, D0 k → ¬ C k) (hC' : Bd C w) (h0 : I [] D0 w) (a₁ : α → Act)
    (hassign : ∀ (l : Nat) (x : α) (W : World) (K : Act → World → Prop), K (a₁ x) W →
      assign.wpIn (Fence.wide.inRound l) 0 P (Exit.then K (fun _ _ _ => False)) { tmps := (ps.zip (enc x)).foldl (fun t (p, v) => t.setIfInBounds p v) a.tmps, defers := [] } W)
    (hbody : ∀ (l : Nat) (pre : List α) (x : α) (D : Nat → Prop) (W : World), I pre D W → Bd D W → Only D0 w W → Gr D0 w D → R pre x W → pre.length < N → body.wpIn (Fence.wide.inRound l) 0 P (bodyQ I Ix (pre ++ [x]) D W) (a₁ x) W)
    (hdone : ∀ (d : Nat) (xs : List α) (D : Nat → Prop) (W : World), S xs → I xs D W → Only D0 w W → Gr D0 w D → w.heap.size ≤ d → ¬ D d → W.heap[d]? = some (.deferred (some [])) → Q .normal { a with defers := { target := .collected d, args := #[] } :: a.defers } W)
    (hstop : ∀ (d : Nat) (c : Code) (pre : List α) (D : Nat → Prop) (W : World), Sp pre → Ix c pre D W → Only D0 w W → Gr D0 w D → w.heap.size ≤ d → ¬ D d → W.heap[d]? = some (.deferred (some [])) → c.wpIn Fence.wide 0 P Q { a with defers := { target := .collected d, args := #[] } :: a.defers } W) :
    (Code.rangeFunc g ps assign body).wpIn Fence.wide 0 P Q a w := by
  refine wpIn_rangeFunc fun fn _ => ?_
  obtain ⟨d, hd⟩ : ∃ d, d = w.heap.size := ⟨_, rfl⟩
  obtain ⟨l, hl⟩ : ∃ l, l = w.heap.size + 1 := ⟨_, rfl⟩
  obtain ⟨rec, hrec⟩ : ∃ rec : LoopState → Option Code → Loop, rec = fun st pe => { state := st, pending := pe, fn := fn, tmps := a.tmps, params := ps, assign := assign, body := body, defers := d } := ⟨_, rfl⟩
  obtain ⟨W1, hW1⟩ : ∃ W1, (w.alloc (.deferred (some []))).alloc (.loop (rec .ready none)) = W1 := ⟨_, rfl⟩
  have hs1 : W1.heap.size = w.heap.size + 2 := by rw [← hW1]; simp
  have hold : ∀ k, k < w.heap.size → W1.heap[k]? = w.heap[k]? := fun k hk => by
    rw [← hW1]; exact (Below.heap_alloc _ _ _ (by simp; omega)).trans (Below.heap_alloc _ _ _ hk)
  have hl1 : W1.heap[l]? = some (.loop (rec .ready none)) := by
    rw [← hW1, hl]; have := World.alloc_heap_new (w.alloc (.deferred (some []))) (.loop (rec .ready none)); rwa [World.size_alloc] at this
  have hd1 : W1.heap[d]? = some (.deferred (some [])) := by
    rw [← hW1, hd]; exact (Below.heap_alloc _ _ _ (by simp)).trans (World.alloc_heap_new w _)
  have hbW : Below w.heap.size w W1 := by rw [← hW1]; exact ((Below.refl _ _).alloc (Nat.le_refl _) _).alloc (by simp) _
  have hDl : ¬ D0 l := fun h => by have := hD0 l h; omega
  have hDd : ¬ D0 d := fun h => by have := hD0 d h; omega
  -- what the caller's data and the two blocks of the statement's own are
  let J : List α → (Nat → Prop) → World → Prop := fun pre D W => ∃ E, I pre E W ∧ Bd E W ∧ Gr D0 w E ∧ ¬ E l ∧ ¬ E d ∧ (∀ k, D k ↔ E k ∨ k = l ∨ k = d) ∧
    W.heap[l]? = some (.loop (rec .ready none)) ∧ W.heap[d]? = some (.deferred (some []))
  let Jx : List α → (Nat → Prop) → World → Prop := fun pre D W => ∃ c E, Ix c pre E W ∧ Bd E W ∧ Gr D0 w E ∧ ¬ E l ∧ ¬ E d ∧ (∀ k, D k ↔ E k ∨ k = l ∨ k = d) ∧
    W.heap[l]? = some (.loop (rec .done (some c))) ∧ W.heap[d]? = some (.deferred (some []))
  have hJ : Stable J := by
    rintro pre D W W' ⟨E, h1, h2, h3, h4, h5, h6, h7, h8⟩ hs hk
    refine ⟨E, hI pre E W W' h1 hs (fun k hkE => hk k ((h6 k).2 (.inl hkE))), fun k hkE => Nat.lt_of_lt_of_le (h2 k hkE) hs, h3, h4, h5, h6, (hk l ((h6 l).2 (.inr (.inl rfl)))).trans h7, (hk d ((h6 d).2 (.inr (.inr rfl)))).trans h8⟩
  have hJx : Stable Jx := by
    rintro pre D W W' ⟨c, E, h1, h2, h3, h4, h5, h6, h7, h8⟩ hs hk
    refine ⟨c, E, hIx c pre E W W' h1 hs (fun k hkE => hk k ((h6 k).2 (.inl hkE))), fun k hkE => Nat.lt_of_lt_of_le (h2 k hkE) hs, h3, h4, h5, h6, (hk l ((h6 l).2 (.inr (.inl rfl)))).trans h7, (hk d ((h6 d).2 (.inr (.inr rfl)))).trans h8⟩
  let D1 : Nat → Prop := fun k => D0 k ∨ k = l ∨ k = d
  have hD1 : Bd D1 W1 := fun k hk => by
    rcases hk with h | rfl | rfl
    · have := hD0 k h; omega
    · omega
    · omega
  have hwW : ∀ {W : World}, Only D1 W1 W → Only D0 w W := fun {W} h =>
    ⟨h.os.trans hbW.os, h.tape.trans hbW.tape, h.output.trans hbW.output, Nat.le_trans hbW.size h.size, fun k hk hn =>
      (h.same k (by omega) (fun hh => by rcases hh with hh | rfl | rfl; exact hn hh; omega; omega)).trans (hold k hk)⟩
  refine ⟨l, [{ target := .collected d, args := #[] }], W1, { target := .fn (.func gf) lb, args := #[.func (.yield l) #[] #[]] }, W1, gf, #[.func (.yield l) #[] #[]] ++ lb, W1, ?_, ?_, ?_, ?_, ?_, ?_⟩
  · rw [← hW1, hrec, hl, hd]; exact run_enterLoop_outer _ _ _ _ _
  · simp only [resolve, hg]
    simp [go_sem]
  · intro f' hf'; trivial
  · simp [invoke, go_sem, eg]
  · intro h; simp [Fence.wide] at h
  refine (hseq l J Jx D1 W1 (hb0.trans (hbW.mono hb0.size)) hD1 ?_ hJ hJx ?_ ?_).mono ?_
  · intro k hk hkC
    have := hC' k hkC
    rcases hk with h | rfl | rfl
    · exact hC k h hkC
    · omega
    · omega
  · -- a round
    rintro pre x D W ⟨E, h1, h2, h3, h4, h5, h6, h7, h8⟩ hBd hOn hGr hRx hlen
    have hlW : l < W.heap.size := (Array.getElem?_eq_some_iff.1 h7).1
    have hy := run_yield (P := P) (args := enc x) h7 (by rw [hrec]; exact hps x)
    rw [hrec] at hy
    refine ⟨fn, _, assign, body, hy, roundIn_of_wpIn trivial (hassign l x W _ ⟨_, run_beginRound h7 (by rw [hrec]), ?_⟩)⟩
    obtain ⟨W2, hW2⟩ : ∃ W2, W2 = W.putObj l (.loop { rec .ready none with state := .busy }) := ⟨_, rfl⟩
    have g7 : W2.heap[l]? = some (.loop { rec .ready none with state := .busy }) := by rw [hW2]; exact World.putObj_heap_same hlW
    have gO : ∀ k, k ≠ l → W2.heap[k]? = W.heap[k]? := fun k hk => by rw [hW2]; exact World.putObj_heap_other hk
    have gS : W2.heap.size = W.heap.size := by rw [hW2]; simp
    have g8 : W2.heap[d]? = some (.deferred (some [])) := (gO d (by omega)).trans h8
    have gI : I pre E W2 := hI pre E W W2 h1 (by omega) (fun k hk => gO k (fun e => h4 (e ▸ hk)))
    have gOn : Only D1 W1 W2 := hOn.trans (by rw [hW2]; exact Only.putObj (D := D) ((h6 l).2 (.inr (.inl rfl))) _) hGr
    have gR : R pre x W2 := by rw [hW2]; exact hR pre x W l _ _ hRx h7
    rw [← hW2]
    refine wpIn_mono (hbody l pre x E W2 gI (fun k hk => by rw [gS]; exact h2 k hk) (hwW gOn) h3 gR hlen) ?_
    -- what stands when the body has ended
    have fin : ∀ (jump : Option Code) (W3 : World) (E' : Nat → Prop), Only E W2 W3 → Gr E W2 E' → Bd E' W3 →
        (Instr.endRound l jump).run P W3 = .ok (.bool jump.isNone) (W3.putObj l (.loop (rec (if jump.isNone then .ready else .done) jump))) ∧
        Only D W (W3.putObj l (.loop (rec (if jump.isNone then .ready else .done) jump))) ∧ Gr D W (fun k => E' k ∨ k = l ∨ k = d) ∧
        Bd (fun k => E' k ∨ k = l ∨ k = d) (W3.putObj l (.loop (rec (if jump.isNone then .ready else .done) jump))) ∧ ¬ E' l ∧ ¬ E' d ∧ Gr D0 w E' ∧
        (W3.putObj l (.loop (rec (if jump.isNone then .ready else .done) jump))).heap[l]? = some (.loop (rec (if jump.isNone then .ready else .done) jump)) ∧
        (W3.putObj l (.loop (rec (if jump.isNone then .ready else .done) jump))).heap[d]? = some (.deferred (some [])) ∧
        (∀ k, E' k → (W3.putObj l (.loop (rec (if jump.isNone then .ready else .done) jump))).heap[k]? = W3.heap[k]?) := by
      intro jump W3 E' k1 k2 k3
      have hdW : d < W2.heap.size := by omega
      have hl3 := (k1.same l (by omega) h4).trans g7
      have hl3' : l < W3.heap.size := (Array.getElem?_eq_some_iff.1 hl3).1
      have nl : ¬ E' l := fun h => by rcases k2 l h with h' | h'; exact h4 h'; omega
      have nd : ¬ E' d := fun h => by rcases k2 d h with h' | h'; exact h5 h'; omega
      have hend := run_endRound (P := P) jump hl3
      refine ⟨by rw [hrec] at hend ⊢; exact hend, ?_, ?_, ?_, nl, nd, ?_, World.putObj_heap_same hl3', (World.putObj_heap_other (by omega)).trans ((k1.same d hdW h5).trans g8), fun k hk => World.putObj_heap_other (fun e => nl (e ▸ hk))⟩
      · have e1 : Only D W W2 := by rw [hW2]; exact Only.putObj (D := D) ((h6 l).2 (.inr (.inl rfl))) _
        have e2 : Only D W2 W3 := k1.mono fun k hk => (h6 k).2 (.inl hk)
        exact (e1.trans e2 (Gr.refl _ _)).trans (Only.putObj (D := D) ((h6 l).2 (.inr (.inl rfl))) _) (Gr.refl _ _)
      · intro k hk
        rcases hk with h | rfl | rfl
        · rcases k2 k h with h' | h'
          · exact .inl ((h6 k).2 (.inl h'))
          · exact .inr (by omega)
        · exact .inl ((h6 k).2 (.inr (.inl rfl)))
        · exact .inl ((h6 k).2 (.inr (.inr rfl)))
      · intro k hk
        rw [World.putObj_size]
        rcases hk with h | rfl | rfl
        · exact k3 k h
        · omega
        · have := k1.size; omega
      · intro k hk
        rcases k2 k hk with h' | h'
        · exact h3 k h'
        · right; have := hOn.size; omega
    rintro e a3 W3 hp
    cases e with
    | normal =>
      obtain ⟨E', k1, k2, k3, k4⟩ := hp
      obtain ⟨f1, f2, f3, f4, f5, f6, f7, f8, f9, f10⟩ := fin none W3 E' k1 k2 k3
      exact ⟨_, _, f1, _, f2, f3, f4, .inl ⟨rfl, E', hI _ E' W3 _ k4 (by rw [World.putObj_size]; exact Nat.le_refl _) f10, fun k hk => f4 k (.inl hk), f7, f5, f6, fun _ => Iff.rfl, f8, f9⟩⟩
    | ret =>
      obtain ⟨E', k1, k2, k3, k4⟩ := hp
      obtain ⟨f1, f2, f3, f4, f5, f6, f7, f8, f9, f10⟩ := fin (some .ret) W3 E' k1 k2 k3
      exact ⟨_, _, f1, _, f2, f3, f4, .inr ⟨rfl, _, E', hIx _ _ E' W3 _ k4 (by rw [World.putObj_size]; exact Nat.le_refl _) f10, fun k hk => f4 k (.inl hk), f7, f5, f6, fun _ => Iff.rfl, f8, f9⟩⟩
    | exit id =>
      obtain ⟨E', k1, k2, k3, k4⟩ := hp
      obtain ⟨f1, f2, f3, f4, f5, f6, f7, f8, f9, f10⟩ := fin (some (.exit id)) W3 E' k1 k2 k3
      exact ⟨_, _, f1, _, f2, f3, f4, .inr ⟨rfl, _, E', hIx _ _ E' W3 _ k4 (by rw [World.putObj_size]; exact Nat.le_refl _) f10, fun k hk => f4 k (.inl hk), f7, f5, f6, fun _ => Iff.rfl, f8, f9⟩⟩
    | goto t =>
      obtain ⟨E', k1, k2, k3, k4⟩ := hp
      obtain ⟨f1, f2, f3, f4, f5, f6, f7, f8, f9, f10⟩ := fin (some (.goto t)) W3 E' k1 k2 k3
      exact ⟨_, _, f1, _, f2, f3, f4, .inr ⟨rfl, _, E', hIx _ _ E' W3 _ k4 (by rw [World.putObj_size]; exact Nat.le_refl _) f10, fun k hk => f4 k (.inl hk), f7, f5, f6, fun _ => Iff.rfl, f8, f9⟩⟩
    | panic ch => exact hp.elim
    | outgrown => exact hp.elim
  · refine ⟨D0, hI [] D0 w W1 h0 hbW.size (fun k hk => hold k (hD0 k hk)), fun k hk => by have := hD0 k hk; omega, Gr.refl _ _, hDl, hDd, fun _ => Iff.rfl, hl1, hd1⟩
  · -- behind the iterator
    rintro e W2 ⟨⟨v, rfl⟩, D, hOn, hGr, hBd, (⟨xs, hS, E, h1, h2, h3, h4, h5, h6, h7, h8⟩ | ⟨pre, hSp, c, E, h1, h2, h3, h4, h5, h6, h7, h8⟩)⟩
    · have hend := run_endLoop (P := P) h7 (by rw [hrec]; simp)
      rw [hrec] at hend
      refine ⟨none, _, hend, hdone d xs E _ hS (hI _ E W2 _ h1 (by simp) fun k hk => World.putObj_heap_other (fun e => h4 (e ▸ hk))) ?_ h3 (by omega) h5 ((World.putObj_heap_other (by omega)).trans h8)⟩
      exact hwW (hOn.trans (Only.putObj (D := D) ((h6 l).2 (.inr (.inl rfl))) _) hGr)
    · have hend := run_endLoop (P := P) h7 (by rw [hrec]; simp)
      rw [hrec] at hend
      refine ⟨some c, _, hend, hstop d c pre E _ hSp (hIx c _ E W2 _ h1 (by simp) fun k hk => World.putObj_heap_other (fun e => h4 (e ▸ hk))) ?_ h3 (by omega) h5 ((World.putObj_heap_other (by omega)).trans h8)⟩
      exact hwW (hOn.trans (Only.putObj (D := D) ((h6 l).2 (.inr (.inl rfl))) _) hGr)
end Go.Proofs.YtfihpofdoffclaaGreatDoor

/- strings.Builder's methods, with the blocks that they write. -/
namespace Go.Proofs.YtfihpofdoffclaaGreatDoor
open Go.RowKit

theorem elemByte : ElemOK Tryz.prog 52 5 (.int .u8 0) 1 := ⟨by kernel_rfl, by kernel_rfl, rfl⟩
theorem und9 : Tryz.prog.underlying 9 = some .string := by kernel_rfl
/-- The block of a row behind an append: the old one, or a new one. -/
def NewBlk (w : World) (v v' : Value) : Prop := v'.ownBlock = v.ownBlock ∨ ∀ k, v'.ownBlock = some k → w.heap.size ≤ k

theorem ownBlock_ge {w : World} {B : Nat} {E : TypeId} {v : Value} {n : Nat} {xs : List Value} (h : w.ownsRow B E 1 v n xs) : ∀ k, v.ownBlock = some k → B ≤ k := fun k hk => (h.lt k hk).1

theorem run_app_str (w : World) (ty : TypeId) (v : Value) (n : Nat) (xs : List Value) (hown : w.ownsRow 0 5 1 v n xs) (s : ByteArray) (hb : n + s.size ≤ 1000000000) :
    ∃ v' w', (Builtin.append_ #[52, 9] ty #[v, .string s]).run Tryz.prog w = .ok v' w' ∧ w'.ownsRow 0 5 1 v' (n + s.size) (xs ++ Lib.strCells s) ∧ w.grownBy w' v.ownBlock ∧ NewBlk w v v' := by
  obtain ⟨i0, hi, hz0, hz1, hz2⟩ := info_parts elemByte.2.1
  obtain ⟨v', w', hr, h1, h2, _⟩ := Lib.run_append_own_string (P := Tryz.prog) w 0 52 9 ty 5 i0 elemByte.1 und9 hi hz0 hz1 hz2 v n xs hown s (by unfold maxLen; omega) (by omega) (Nat.zero_le _)
  refine ⟨v', w', hr, h1, h2, ?_⟩
  rcases hown.2 with ⟨rfl, rfl⟩ | ⟨g, cap, cur, rfl, hbg, hg, hnc, hcm, hcs, htake⟩
  · have hx : xs = [] := List.length_eq_zero_iff.1 (by simpa using hown.1)
    subst hx
    obtain ⟨v2, w2, hr2, h3, _, _⟩ := Lib.run_append_own_string (P := Tryz.prog) w w.heap.size 52 9 ty 5 i0 elemByte.1 und9 hi hz0 hz1 hz2 (.slice none 0 0) 0 [] (World.ownsRow_nil _ _ _ _) s (by unfold maxLen; omega) (by omega) (Nat.le_refl _)
    rw [hr] at hr2
    injection hr2 with e1 e2
    subst e1
    exact .inr (ownBlock_ge h3)
  · by_cases hroom : n + s.size ≤ cap
    · have hcs' : cur.size = cap := by simpa using hcs
      have hr2 := Lib.run_append_room_string (P := Tryz.prog) w 52 9 ty 5 i0 elemByte.1 und9 hi hz1 g n cap cur hg s hroom (by omega)
      rw [hr] at hr2
      injection hr2 with e1 e2
      subst e1
      exact .inl rfl
    · have holds : ∀ j u, xs[j]? = some u → w.cell? ((⟨g, 0, none⟩ : Addr).add j) = some u := hown.cells (g := g) rfl
      have hr2 := Lib.run_append_grow_string (P := Tryz.prog) w 52 9 ty 5 i0 (.int .u8 0) elemByte.1 und9 hi hz0 ⟨g, 0, none⟩ n cap xs (by rw [hz1]; simpa using hown.1) holds s (by omega) (by omega) (by rw [hz2]; exact growslice_fits (by omega) (by omega))
      rw [hr] at hr2
      injection hr2 with e1 e2
      subst e1
      right
      intro k hk
      simp only [Value.ownBlock, Option.some.injEq] at hk
      omega

end Go.Proofs.YtfihpofdoffclaaGreatDoor

/- The walks of strings.Builder's methods. -/
namespace Go.Proofs.YtfihpofdoffclaaGreatDoor
open Go.RowKit

theorem und106 : Tryz.prog.underlying 116 = some (.pointer 118) := by kernel_rfl
theorem und142 : Tryz.prog.underlying 186 = some .unsafePointer := by kernel_rfl
theorem size109 : (Tryz.prog.info? 118).map (·.size) = some 2 := by kernel_rfl
theorem lies109 : liesAt Tryz.prog Tryz.prog.depth 118 (2 / Tryz.prog.cellsOf 118) 0 118 1 = true := by kernel_rfl

/-- A builder that has been written, or one that has not. -/
def BA (w : World) (b : Nat) (p v : Value) (bs : List Value) : Prop := w.heap[b]? = some (.cells #[p, v] 118 (0, 0)) ∧ w.ownsRow 0 5 1 v bs.length bs ∧ v.ownBlock ≠ some b
def selfP (b : Nat) : Value := .pointer (some ⟨b, 0, none⟩)

theorem two_set0 {w : World} {b : Nat} {p v u : Value} {t : TypeId} (h : w.heap[b]? = some (.cells #[p, v] t (0, 0))) : (w.setCell ⟨b, 0, none⟩ u).heap[b]? = some (.cells #[u, v] t (0, 0)) := by
  rw [heap_setCell_same w b 0 #[p, v] t u h]; rfl
theorem two_set1 {w : World} {b : Nat} {p v u : Value} {t : TypeId} (h : w.heap[b]? = some (.cells #[p, v] t (0, 0))) : (w.setCell ⟨b, 1, none⟩ u).heap[b]? = some (.cells #[p, u] t (0, 0)) := by
  rw [heap_setCell_same w b 1 #[p, v] t u h]; rfl
theorem BA.c0 {w : World} {b : Nat} {p v : Value} {bs : List Value} (h : BA w b p v bs) : w.cell? ⟨b, 0, none⟩ = some p := by rw [cell_of_row w b 0 _ _ _ h.1]; rfl
theorem BA.c1 {w : World} {b : Nat} {p v : Value} {bs : List Value} (h : BA w b p v bs) : w.cell? ⟨b, 1, none⟩ = some v := by rw [cell_of_row w b 1 _ _ _ h.1]; rfl
theorem BA.fz {w : World} {b : Nat} {p v : Value} {bs : List Value} (h : BA w b p v bs) (j : Nat) : w.frozen? ⟨b, j, none⟩ = false := frozen_of_row w b j _ _ h.1
theorem BA.lt {w : World} {b : Nat} {p v : Value} {bs : List Value} (h : BA w b p v bs) : b < w.heap.size := (Array.getElem?_eq_some_iff.1 h.1).1

set_option maxRecDepth 100000 in
set_option maxHeartbeats 800000 in
theorem bCheckFresh {w : World} {b : Nat} {v : Value} {bs : List Value} (h : BA w b (.pointer none) v bs) :
    Calls Tryz.prog 122 #[.pointer (some ⟨b, 0, none⟩)] w fun e w' => e = .returned (.tuple #[]) ∧ w' = w.setCell ⟨b, 0, none⟩ (selfP b) := by
  obtain ⟨j, hj, hjs⟩ := Option.map_eq_some_iff.1 size109
  have h0 := h.c0
  have hfz := h.fz 0
  have hsh : w.shape? b = some (118, 2) := by simp [World.shape?, h.1]
  go_enter Tryz.func122, Tryz.ntmps122
  go_wp2
  rw [Lib.run_to_unsafe w ⟨b, 0, none⟩ und106 und142 hj (by rw [hjs]; decide) hsh (Nat.zero_lt_succ 1)]
  simp only [Result.andThen]
  rw [Oper.upon_value]
  go_wp2
  rw [run_callFunc_extern Tryz.func142 (by kernel_rfl) (by kernel_rfl) (by kernel_rfl) (e := Extern.AbiNoEscape.same) (by kernel_rfl)]
  rw [Lib.run_noEscape]
  simp only [Result.andThen]
  rw [Oper.upon_value]
  go_wp2
  rw [Lib.run_from_unsafe w ⟨b, 0, none⟩ und142 und106 hj hsh lies109]
  simp only [Result.andThen]
  rw [Oper.upon_value]
  go_wp2
  go_end0
  exact ⟨rfl, rfl⟩

set_option maxRecDepth 100000 in
set_option maxHeartbeats 800000 in
theorem bCheckUsed {w : World} {b : Nat} {v : Value} {bs : List Value} (h : BA w b (.pointer (some ⟨b, 0, none⟩)) v bs) :
    Calls Tryz.prog 122 #[.pointer (some ⟨b, 0, none⟩)] w fun e w' => e = .returned (.tuple #[]) ∧ w' = w := by
  obtain ⟨j, hj, hjs⟩ := Option.map_eq_some_iff.1 size109
  have h0 := h.c0
  go_enter Tryz.func122, Tryz.ntmps122
  go_wp2
  rw [Lib.run_neq_ptr_same w _ und106 hj]
  go_wp2
  go_end0
  exact ⟨rfl, rfl⟩

def PP (b : Nat) (p : Value) : Prop := p = .pointer none ∨ p = .pointer (some ⟨b, 0, none⟩)

theorem BA.used {w : World} {b : Nat} {p v : Value} {bs : List Value} (h : BA w b p v bs) (q : Value) : BA (w.setCell ⟨b, 0, none⟩ q) b q v bs :=
  ⟨two_set0 h.1, h.2.1.kept (row := some b) ⟨rfl, rfl, rfl, by simp [World.setCell], fun k _ hk => Below.heap_setCell _ _ _ _ (fun e => hk (by simp [e]))⟩ (.inr h.2.2), h.2.2⟩

/-- copyCheck. -/
theorem bCheck {w : World} {b : Nat} {p v : Value} {bs : List Value} (h : BA w b p v bs) (hp : PP b p) :
    Calls Tryz.prog 122 #[.pointer (some ⟨b, 0, none⟩)] w fun e w' => e = .returned (.tuple #[]) ∧ BA w' b (selfP b) v bs ∧ Only (fun k => k = b) w w' := by
  rcases hp with rfl | rfl
  · refine (bCheckFresh h).mono ?_
    rintro e w' ⟨rfl, rfl⟩
    exact ⟨rfl, h.used _, (Only.refl (fun k => k = b) w).setCell (p := ⟨b, 0, none⟩) rfl _⟩
  · refine (bCheckUsed h).mono ?_
    rintro e w' ⟨rfl, rfl⟩
    exact ⟨rfl, h, Only.refl _ _⟩

theorem BA.put {w : World} {b : Nat} {p v v' : Value} {bs' : List Value} (hb : w.heap[b]? = some (.cells #[p, v] 118 (0, 0))) (hown : w.ownsRow 0 5 1 v' bs'.length bs') : BA (w.setCell ⟨b, 1, none⟩ v') b p v' bs' := by
  have hne : v'.ownBlock ≠ some b := Lib.ownBlock_ne hown hb (by decide)
  exact ⟨two_set1 hb, hown.kept (row := some b) ⟨rfl, rfl, rfl, by simp [World.setCell], fun k _ hk => Below.heap_setCell _ _ _ _ (fun e => hk (by simp [e]))⟩ (.inr hne), hne⟩

theorem wpAppStr {w : World} {ops : Array Oper} {rest : List Oper} {o : Oper} {a : Act} {Q : Exit → Act → World → Prop} (hgd : o.guard = none) (s x : Operand)
    (ho : o.op = .call { callee := .builtin .append, args := #[s, x], argTypes := #[52, 9] }) (v : Value) (n : Nat) (xs : List Value) (hs : a.eval s = v) (hown : w.ownsRow 0 5 1 v n xs) (t : ByteArray) (hx : a.eval x = .string t) (hb : n + t.size ≤ 1000000000)
    (h : ∀ v' w', w'.ownsRow 0 5 1 v' (n + t.size) (xs ++ Lib.strCells t) → w.grownBy w' v.ownBlock → NewBlk w v v' → wpList Tryz.prog ops Q rest (a.put o.dst v') w') : wpList Tryz.prog ops Q (o :: rest) a w := by
  refine wpList_plain hgd fun K hK => ?_
  obtain ⟨v', w', hr, h2, h3, h4⟩ := run_app_str w o.type v n xs hown t hb
  unfold Oper.wp execOp
  simp only [ho, resolve, invoke, builtin, Sem.run_bind, Sem.run_pure, Result.andThen_ok, List.map_toArray, List.map_cons, List.map_nil, hs, hx, hr]
  exact hK _ _ (h v' w' h2 h3 h4)

theorem grown_only {w0 w w' : World} {b : Nat} {v : Value} (h : Only (fun k => k = b) w0 w) (hg : w.grownBy w' v.ownBlock) : Only (fun k => k = b ∨ v.ownBlock = some k) w0 w' :=
  ⟨hg.os.trans h.os, hg.tape.trans h.tape, hg.output.trans h.output, Nat.le_trans h.size hg.size, fun k hk hn => (hg.block k (Nat.lt_of_lt_of_le hk h.size) (fun e => hn (.inr e.symm))).trans (h.same k hk (fun e => hn (.inl e)))⟩

set_option maxRecDepth 100000 in
set_option maxHeartbeats 1600000 in
/-- WriteString. -/
theorem bWriteString {w : World} {b : Nat} {p v : Value} {bs : List Value} (h : BA w b p v bs) (hp : PP b p) (s : ByteArray) (hn : bs.length + s.size ≤ 1000000000) :
    Calls Tryz.prog 81 #[.pointer (some ⟨b, 0, none⟩), .string s] w fun e w' => e = .returned (.tuple #[.int .i64 s.size, .nilIface]) ∧
      ∃ v', BA w' b (selfP b) v' (bs ++ Lib.strCells s) ∧ Only (fun k => k = b ∨ v.ownBlock = some k) w w' ∧ NewBlk w v v' := by
  have e98 : ∀ args w, (callFunc 122 args).run Tryz.prog w = .ok (.enter 122 args) w := enters_of Tryz.func122 (by kernel_rfl) rfl
  go_enter Tryz.func81, Tryz.ntmps81
  go_wp2_with (go_at_call 122; refine (bCheck h hp).mono ?_)
  rintro e w1 ⟨rfl, h1, ho1⟩
  have c0 := h1.c0
  have c1 := h1.c1
  go_wp2_with (at_builtin; refine wpAppStr rfl _ _ rfl _ _ _ rfl h1.2.1 s rfl hn ?_)
  intro v' w2 hown' hgrow hnew
  have hb2 : w2.heap[b]? = some (.cells #[selfP b, v] 118 (0, 0)) := (hgrow.block b h1.lt (fun e => h1.2.2 e.symm)).trans h1.1
  have d1 : w2.cell? ⟨b, 1, none⟩ = some v := by rw [cell_of_row w2 b 1 _ _ _ hb2]; rfl
  have f1 : w2.frozen? ⟨b, 1, none⟩ = false := frozen_of_row w2 b 1 _ _ hb2
  obtain ⟨ao, n', cap, rfl⟩ : ∃ ao n' cap, v' = .slice ao n' cap := by
    rcases hown'.2 with ⟨hv, _⟩ | ⟨g, cap, cur, hv, _⟩
    · exact ⟨_, _, _, hv⟩
    · exact ⟨_, _, _, hv⟩
  go_wp2
  go_ret2
  refine ⟨rfl, _, BA.put hb2 (by simpa [Lib.strCells_length] using hown'), (grown_only ho1 hgrow).setCell (.inl rfl) _, ?_⟩
  rcases hnew with h4 | h4
  · exact .inl h4
  · exact .inr fun k hk => Nat.le_trans ho1.size (h4 k hk)

end Go.Proofs.YtfihpofdoffclaaGreatDoor

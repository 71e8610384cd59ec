/- Texts of this claim, put together: V4 L1 S2 V5 V6. -/
import Derived.Test.YtiiiegflobihjaaGreatKAWzc
import Derived.Test.YtiiiegflobihjaaGreatKAWu
import Derived.Test.YtiiiegflobihjaaGreatKAWn
import Derived.Test.YtiiiegflobihjaaGreatKAWh
import Derived.Test.YtiiiegflobihjaaGreatKAWj
import Derived.Test.YtiiiegflobihjaaGreatKAWk
import Derived.Test.YtiiiegflobihjaaGreatKAWl
import Derived.Test.YtiiiegflobihjaaGreatKAWzb
import Derived.Test.YtiiiegflobihjaaGreatKAWv
import Derived.Deep.DeepAppendRoom

/- counted. -/
namespace Go.Proofs.YtiiiegflobihjaaGreat
open Go.RowKit

set_option maxRecDepth 100000 in
set_option maxHeartbeats 1600000 in
theorem countedW {w : World} {v : Value} {n : Int} {ss : List (List (List Int))} (hA : AdvV w v n ss) (h0 : chkA n ss = 0) (hO : WdOK ss) {k : Nat} (hk : k ≤ 6) (hz : num ss 4097 k ≤ 4096) :
    Calls Tryz.prog 51 #[v, .int .i64 (k : Int), .int .i64 4096] w fun e w' => e = .returned (.tuple #[.int .i64 (num ss 4097 k : Nat), .int .i64 0]) ∧ Below w.heap.size w w' := by
  have hmv : movesN ss ≤ 1000000000 := by have := hO.2.1; omega
  obtain ⟨xa, xc, hu⟩ := advShape' hA
  subst hu
  obtain ⟨W1, hW1⟩ : ∃ W1, W1 = w.alloc (.cells #[.int .i64 n, .slice xa ss.length xc] 24) := ⟨_, rfl⟩
  obtain ⟨hb1, p0, p1, _⟩ := boxAdv hW1
  have HC := Lib.hid (fun W (hb : Below w.heap.size w W) => h0 ▸ checkA (hA.keep hb) hmv)
  have HN := Lib.hid (fun W (hb : Below w.heap.size w W) => numberW (k := k) (L := 4097) (lim := 4096) (hA.keep hb) hO (by omega) rfl (by omega) (by omega))
  obtain ⟨z, hzz⟩ : ∃ z, num ss 4097 k = z := ⟨_, rfl⟩
  rw [hzz] at hz
  simp only [hzz] at HN ⊢
  have h1 : decide ((k : Int) < 0) = false := decide_eq_false (by omega)
  have h2 : decide ((6 : Int) < (k : Int)) = false := decide_eq_false (by omega)
  have h3 : decide ((4096 : Int) < (z : Int)) = false := decide_eq_false (by omega)
  clear hA hzz
  go_enter Tryz.func51, Tryz.ntmps51
  go_wp2_with fail
  rw [← hW1]
  replace hW1 := Lib.hid hW1
  refine (HC.out W1 hb1).mono ?_
  rintro e W2 ⟨rfl, hb2⟩
  have B2 := bt hb1 hb2 hb1.size
  have q0 := cell_kept hb2 p0
  have q1 := cell_kept hb2 p1
  go_wp2_with fail
  refine (HN.out W2 B2).mono ?_
  rintro e W3 ⟨rfl, hb3⟩
  go_wp2
  go_ret2
  exact ⟨rfl, bt B2 hb3 B2.size⟩
end Go.Proofs.YtiiiegflobihjaaGreat

/- The reference: First. -/
namespace Go.Proofs.YtiiiegflobihjaaGreat
open Go.RowKit

/-- An item of the queue; an empty word is nil. -/
def EItN (w : World) (cs : List Value) (x : It) : Prop := ∃ u, cs = [.int .i64 (x.1.1 : Int), .int .i64 (x.1.2 : Int), u] ∧ OwX 51 7 EI w 0 u x.2.length x.2 ∧ (x.2 = [] → u = .slice none 0 0)
theorem EItN.stab {E : TypeId} (h : 51 ≠ E) : Stab E EItN := fun _ _ _ _ ⟨u, h1, h2, h3⟩ hx => ⟨u, h1, h2.other (EI.stab _) h hx, h3⟩
theorem OwX.mono {α : Type} {E : TypeId} {k : Nat} {El El' : World → List Value → α → Prop} {w : World} {B : Nat} {v : Value} {n : Nat} {xs : List α} (h : OwX E k El w B v n xs) (hi : ∀ cs x, El w cs x → El' w cs x) : OwX E k El' w B v n xs := by
  obtain ⟨vs, h1, h2, h3, h4⟩ := h
  exact ⟨vs, h1, h2, h3, fun j x hj => hi _ _ (h4 j x hj)⟩
end Go.Proofs.YtiiiegflobihjaaGreat

/- The reference: access. -/
namespace Go.Proofs.YtiiiegflobihjaaGreat
open Go.RowKit

/-- A word in a cell; an empty one is nil. -/
def EWdN (w : World) (cs : List Value) (x : List (List Int)) : Prop := ∃ u, cs = [u] ∧ OwX 51 7 EI w 0 u x.length x ∧ (x = [] → u = .slice none 0 0)
theorem EWdN.stab {E : TypeId} (h : 51 ≠ E) : Stab E EWdN := fun _ _ _ _ ⟨u, h1, h2, h3⟩ hx => ⟨u, h1, h2.other (EI.stab _) h hx, h3⟩
theorem OwX.wd {E : TypeId} {w : World} {B : Nat} {v : Value} {n : Nat} {xs : List (List (List Int))} (h : OwX E 1 EWdN w B v n xs) : OwX E 1 EWd w B v n xs := h.mono fun _ _ ⟨u, h1, h2, _⟩ => ⟨u, h1, h2⟩
end Go.Proofs.YtiiiegflobihjaaGreat

/- All words of a length: what the recursion keeps. -/
namespace Go.Proofs.YtiiiegflobihjaaGreat
open Go.RowKit

/-- The words of a length from a state. -/
def wL (ss : List (List (List Int))) : Nat → Nat → List (List (List Int))
  | 0, _ => [[]]
  | m + 1, s => (ss.getD s []).flatMap fun mv => (wL ss m (mvTo mv)).map (rdOf mv :: ·)
theorem wL_len (ss : List (List (List Int))) : ∀ (m s : Nat), (wL ss m s).length = cnt ss m s
  | 0, _ => rfl
  | m + 1, s => by
    rw [wL, cnt, List.length_flatMap]
    congr 1
    refine List.map_congr_left fun mv _ => ?_
    rw [List.length_map, wL_len ss m]
/-- An element of the list of words: it lies elsewhere than the word that is being made. -/
def EWg (g : Nat) (w : World) (cs : List Value) (x : List (List Int)) : Prop := ∃ u, cs = [u] ∧ OwX 51 7 EI w 0 u x.length x ∧ u.ownBlock ≠ some g
theorem EWg.stab (g : Nat) {E : TypeId} (h : 51 ≠ E) : Stab E (EWg g) := fun _ _ _ _ ⟨u, h1, h2, h3⟩ hx => ⟨u, h1, h2.other (EI.stab _) h hx, h3⟩
theorem OwX.sameB {α : Type} {E : TypeId} {k : Nat} {El El' : World → List Value → α → Prop} {w w' : World} {B n : Nat} {v : Value} {xs : List α} (h : OwX E k El w B v n xs) (hk : ∀ g, v.ownBlock = some g → w'.heap[g]? = w.heap[g]?) (hE : ∀ cs x, El w cs x → El' w' cs x) : OwX E k El' w' B v n xs := by
  obtain ⟨vs, h1, h2, h3, h4⟩ := h
  refine ⟨vs, ⟨h1.1, ?_⟩, h2, h3, fun j x hj => hE _ _ (h4 j x hj)⟩
  rcases h1.2 with h' | ⟨g, cap, cur, k1, k2, k3, k4⟩
  · exact .inl h'
  · exact .inr ⟨g, cap, cur, k1, k2, (hk g (by rw [k1]; rfl)).trans k3, k4⟩
theorem OwX.blockT {α : Type} {E : TypeId} {k : Nat} {El : World → List Value → α → Prop} {w : World} {B n : Nat} {v : Value} {xs : List α} (h : OwX E k El w B v n xs) {g : Nat} (hg : v.ownBlock = some g) : B ≤ g ∧ g < w.heap.size ∧ ∃ cs, w.heap[g]? = some (.cells cs E) := by
  obtain ⟨vs, h1, _⟩ := h
  obtain ⟨h2, h3⟩ := World.ownsRow.lt h1 g hg
  exact ⟨h2, h3, ownsRow_ty h1 g hg⟩
/-- The list of words so far. -/
def WOut (w : World) (B g bo : Nat) (out : List (List (List Int))) : Prop := ∃ ov n, w.heap[bo]? = some (.cells #[ov] 38 (0, 0)) ∧ OwX 44 1 (EWg g) w B ov n out ∧ B ≤ bo
theorem WOut.keepG {w w' : World} {B g bo : Nat} {out : List (List (List Int))} (h : WOut w B g bo out) (hg : ∃ cs, w.heap[g]? = some (.cells cs 51)) (hk : ∀ j, j < w.heap.size → j ≠ g → w'.heap[j]? = w.heap[j]?) : WOut w' B g bo out := by
  obtain ⟨ov, n, h1, h2, h3⟩ := h
  obtain ⟨cs, hg⟩ := hg
  have hne : ∀ {t : TypeId} {cs' : Array Value} {j : Nat}, w.heap[j]? = some (.cells cs' t) → t ≠ 51 → j ≠ g := fun hj ht e => by
    rw [e, hg] at hj
    simp at hj
    exact ht hj.2.symm
  have hbo : bo ≠ g := hne h1 (by decide)
  refine ⟨ov, n, (hk bo (Array.getElem?_eq_some_iff.1 h1).1 hbo).trans h1, h2.sameB (fun j hj => ?_) (fun cs' x hx => ?_), h3⟩
  · obtain ⟨_, h5, cs', h6⟩ := h2.blockT hj
    exact hk j h5 (hne h6 (by decide))
  · obtain ⟨u, hu, h5, h6⟩ := hx
    refine ⟨u, hu, h5.sameB (fun j hj => ?_) (fun _ _ h => h), h6⟩
    obtain ⟨_, h7, _⟩ := h5.blockT hj
    exact hk j h7 (fun e => h6 (by rw [← e]; exact hj))
/-- What a step keeps. -/
def KW (B g bo : Nat) (w w' : World) : Prop := Below B w w' ∧ ∀ (j : Nat) (cs : Array Value) (t : TypeId), w.heap[j]? = some (.cells cs t) → j ≠ g → j ≠ bo → t ≠ 44 → w'.heap[j]? = w.heap[j]?
theorem KW.refl (B g bo : Nat) (w : World) : KW B g bo w w := ⟨Below.refl _ _, fun _ _ _ _ _ _ _ => rfl⟩
theorem KW.trans {B g bo : Nat} {a b c : World} (h : KW B g bo a b) (k : KW B g bo b c) : KW B g bo a c := ⟨h.1.trans k.1, fun j cs t hj h1 h2 h3 => by
  have h4 := h.2 j cs t hj h1 h2 h3
  have h5 : b.heap[j]? = some (.cells cs t) := h4.trans hj
  exact (k.2 j cs t h5 h1 h2 h3).trans h4⟩
theorem KW.below {B g bo : Nat} {w w' : World} (h : Below w.heap.size w w') (hB : B ≤ w.heap.size) : KW B g bo w w' := ⟨h.mono hB, fun j _ _ hj _ _ _ => h.block j (Array.getElem?_eq_some_iff.1 hj).1⟩
theorem KW.grown {B g bo : Nat} {w w' : World} (h : w.grownBy w' (some g)) (hB : B ≤ w.heap.size) (hg : B ≤ g) : KW B g bo w w' :=
  ⟨(Below.refl B w).grown h hB (fun k hk => by injection hk with hk; omega), fun j _ _ hj h1 _ _ => h.block j (Array.getElem?_eq_some_iff.1 hj).1 (by simp; exact h1)⟩
theorem KW.box {B g bo : Nat} {w w' : World} (h : KW B g bo w w') {b : Nat} {cs : Array Value} {t : TypeId} (hb : w.heap[b]? = some (.cells cs t)) (h1 : b ≠ g) (h2 : b ≠ bo) (h3 : t ≠ 44) : w'.heap[b]? = some (.cells cs t) := (h.2 b cs t hb h1 h2 h3).trans hb
/-- The word row, shorter by one. -/
theorem OwX.pre {E : TypeId} {w : World} {B g l cap : Nat} {x : List (List Int)} {r : List Int} (h : OwX E 7 EI w B (.slice (some ⟨g, 0, none⟩) (l + 1) cap) (l + 1) (x ++ [r])) (hx : x.length = l) : OwX E 7 EI w B (.slice (some ⟨g, 0, none⟩) l cap) l x := by
  obtain ⟨vs, h1, h2, h3, h4⟩ := h
  have hvl : vs.length = (l + 1) * 7 := h1.1
  rcases h1.2 with ⟨h', _⟩ | ⟨g', cap', cur, k1, k2, k3, k4, k5, k6, k7⟩
  · cases h'
  · injection k1 with k1 _ kc
    injection k1 with k1
    injection k1 with k1
    subst k1 kc
    refine ⟨vs.take (l * 7), ⟨by rw [List.length_take]; omega, .inr ⟨g, cap, cur, rfl, k2, k3, by omega, k5, k6, ?_⟩⟩, hx, fun u hu => h3 u (List.mem_of_mem_take hu), fun j y hj => ?_⟩
    · rw [← k7, List.take_take, show min (l * 7) ((l + 1) * 7) = l * 7 by omega]
    · have hjl : j < l := by rw [← hx]; exact (List.getElem?_eq_some_iff.1 hj).1
      have h5 := h4 j y (by rw [List.getElem?_append_left (by omega)]; exact hj)
      have h6 : ((vs.take (l * 7)).drop (j * 7)).take 7 = (vs.drop (j * 7)).take 7 := by
        rw [List.drop_take, List.take_take, show min 7 (l * 7 - j * 7) = 7 by omega]
      rw [h6]; exact h5
/-- append(word, r) in place. -/
theorem step_appW {w : World} {B g l cap : Nat} {x : List (List Int)} {ops : Array Oper} {o : Oper} {a : Act} {K : Act → World → Prop} {Q : Exit → Act → World → Prop} {R : Prop} (hgd : o.guard = none) (s y : Operand) {cs : List Value} {r : List Int}
    (ho : o.op = .call { callee := .builtin .append, args := #[s, y], argTypes := #[44, 44] }) (hs : a.eval s = .slice (some ⟨g, 0, none⟩) l cap) (hown : OwX 51 7 EI w B (.slice (some ⟨g, 0, none⟩) l cap) l x) (ad : Addr) (c : Nat) (hx : a.eval y = .slice (some ad) 1 c) (hcs : cs.length = 7)
    (hnews : ∀ j u, cs[j]? = some u → w.cell? (ad.add j) = some u) (hc1 : ∀ u ∈ cs, u.oneCell' = true) (hEl : cs = r.map (Value.int .i64)) (hroom : l + 1 ≤ cap)
    (h : ∀ w', OwX 51 7 EI w' B (.slice (some ⟨g, 0, none⟩) (l + 1) cap) (l + 1) (x ++ [r]) → w.grownBy w' (some g) → K (a.put o.dst (.slice (some ⟨g, 0, none⟩) (l + 1) cap)) w') :
    if Region.wanted o (yielded ops a.tmps) = true then Oper.wp Tryz.prog o a w K Q else R := by
  rw [if_pos (by simp [Region.wanted, hgd])]
  obtain ⟨i0, hi, hz0, hz1, hz2⟩ := info_parts elemRd.2.1
  obtain ⟨vs, k1, k2, k3, k4⟩ := hown
  obtain ⟨w', hr, h1, hg⟩ := run_append_own_spare (P := Tryz.prog) w B 44 o.type 51 i0 7 elemRd.1 hi hz1 g l cap vs k1 ad 1 c cs (by simpa using hcs) hnews hc1 hroom
  unfold Oper.wp execOp
  simp only [ho, resolve, invoke, builtin, Sem.run_bind, Sem.run_pure, Result.andThen_ok, List.map_toArray, List.map_cons, List.map_nil, hs, hx, hr]
  have hvl : vs.length = l * 7 := k1.1
  refine h w' ⟨vs ++ cs, h1, by simp [k2], fun u hu => ?_, fun j y hj => ?_⟩ hg
  · rcases List.mem_append.1 hu with hu | hu
    · exact k3 u hu
    · exact hc1 u hu
  · by_cases hjn : j < l
    · rw [List.getElem?_append_left (by omega)] at hj
      rw [List.drop_append_of_le_length (by omega), List.take_append_of_le_length (by rw [List.length_drop]; omega)]
      exact k4 j y hj
    · rw [List.getElem?_append_right (by omega)] at hj
      have hj0 : j - x.length = 0 := by
        have := (List.getElem?_eq_some_iff.1 hj).1
        simpa using this
      rw [hj0] at hj
      simp only [List.getElem?_cons_zero, Option.some.injEq] at hj
      subst hj
      obtain rfl : j = l := by omega
      rw [← hvl, List.drop_left, List.take_of_length_le (by omega)]
      exact hEl
end Go.Proofs.YtiiiegflobihjaaGreat

/- All words of a length: the recursion. -/
namespace Go.Proofs.YtiiiegflobihjaaGreat
open Go.RowKit

def wF (ss : List (List (List Int))) (m : Nat) (ms : List (List Int)) : List (List (List Int)) := ms.flatMap fun mv => (wL ss m (mvTo mv)).map (rdOf mv :: ·)
theorem wF_step {ss : List (List (List Int))} {m i : Nat} {ms : List (List Int)} (h : i < ms.length) {mv : List Int} (hm : ms.getD i [] = mv) : wF ss m (ms.take (i + 1)) = wF ss m (ms.take i) ++ (wL ss m (mvTo mv)).map (rdOf mv :: ·) := by
  rw [take_snoc h [], hm, wF, List.flatMap_append]; simp [wF]
theorem wF_le (ss : List (List (List Int))) (m i : Nat) (ms : List (List Int)) : (wF ss m (ms.take i)).length ≤ (wF ss m ms).length := by
  have : wF ss m ms = wF ss m (ms.take i) ++ wF ss m (ms.drop i) := by rw [wF, wF, wF, ← List.flatMap_append, List.take_append_drop]
  rw [this, List.length_append]; omega
/-- The boxes that the recursion reads. -/
structure Bxs (w : World) (k : Nat) (n : Int) (sv fv : Value) (tf : TypeId) (g bo bk ba bf : Nat) : Prop where
  k : w.heap[bk]? = some (.cells #[.int .i64 (k : Int)] 3)
  a : w.heap[ba]? = some (.cells #[.int .i64 n, sv] 24)
  f : w.heap[bf]? = some (.cells #[fv] tf)
  tf : tf ≠ 44
  kg : bk ≠ g
  ko : bk ≠ bo
  ag : ba ≠ g
  ao : ba ≠ bo
  fg : bf ≠ g
  fo : bf ≠ bo
  og : bo ≠ g
theorem Bxs.kw {w w' : World} {k : Nat} {n : Int} {sv fv : Value} {tf : TypeId} {B g bo bk ba bf : Nat} (h : Bxs w k n sv fv tf g bo bk ba bf) (hk : KW B g bo w w') : Bxs w' k n sv fv tf g bo bk ba bf :=
  ⟨hk.box h.k h.kg h.ko (by decide), hk.box h.a h.ag h.ao (by decide), hk.box h.f h.fg h.fo h.tf, h.tf, h.kg, h.ko, h.ag, h.ao, h.fg, h.fo, h.og⟩
theorem OwX.wd7 {E : TypeId} {w w' : World} {B g l cap : Nat} {x : List (List Int)} (h : OwX E 7 EI w B (.slice (some ⟨g, 0, none⟩) l cap) l x) (hk : w'.heap[g]? = w.heap[g]?) : OwX E 7 EI w' B (.slice (some ⟨g, 0, none⟩) l cap) l x :=
  h.sameB (fun j hj => by injection hj with hj; rw [← hj]; exact hk) fun _ _ h => h

set_option maxRecDepth 100000 in
set_option maxHeartbeats 6400000 in
theorem wordsRec {n : Int} {ss : List (List (List Int))} (hM : LeadOK ss) {w0 : World} {sv : Value} (hK : KSS 8 w0 sv ss) {k : Nat} (hk6 : k ≤ 6) {B g bo bk ba bf cap : Nat} {tf : TypeId} (hB0 : w0.heap.size ≤ B) (hcap : k ≤ cap) (hgB : B ≤ g) :
    ∀ (m : Nat) {w : World} {l s : Nat} {x : List (List Int)} {out : List (List (List Int))}, l + m = k → s < ss.length → x.length = l → Below w0.heap.size w0 w → B ≤ w.heap.size →
    Bxs w k n sv (.func (.func 52) #[] #[.pointer (some ⟨bk, 0, none⟩), .pointer (some ⟨bo, 0, none⟩), .pointer (some ⟨ba, 0, none⟩), .pointer (some ⟨bf, 0, none⟩)]) tf g bo bk ba bf →
    OwX 51 7 EI w B (.slice (some ⟨g, 0, none⟩) l cap) l x → WOut w B g bo out → out.length + (wL ss m s).length ≤ 1000000 →
    Calls Tryz.prog 52 #[.int .i64 (s : Int), .slice (some ⟨g, 0, none⟩) l cap, .pointer (some ⟨bk, 0, none⟩), .pointer (some ⟨bo, 0, none⟩), .pointer (some ⟨ba, 0, none⟩), .pointer (some ⟨bf, 0, none⟩)] w fun e w' =>
      e = .returned (.tuple #[]) ∧ WOut w' B g bo (out ++ (wL ss m s).map (x ++ ·)) ∧ OwX 51 7 EI w' B (.slice (some ⟨g, 0, none⟩) l cap) l x ∧ KW B g bo w w' := by
  intro m
  induction m with
  | zero =>
    intro w l s x out hlk hs hxl hb0 hBw hX hx hW hbd
    obtain rfl : l = k := by omega
    have ck := cell_of_one hX.k
    obtain ⟨ov, no, hbo, hrow, hboB⟩ := hW
    have hno := hrow.length
    obtain ⟨cb, cbf⟩ := And.intro (cell_of_one hbo) (free_of_one hbo)
    have hks := hx.ks (by omega)
    have hCl := cloneRdK (w := w.drew) ((hx.wd7 (w' := w.drew) rfl).ks (by omega)) (by omega)
    rw [hxl] at hCl
    replace hCl := Lib.hid hCl
    obtain ⟨gcs, hgt⟩ := (hx.blockT (g := g) rfl).2.2
    have hgl : g < w.heap.size := (Array.getElem?_eq_some_iff.1 hgt).1
    have hn9 : no ≤ 1000000000000 := by rw [wL] at hbd; simp at hbd; omega
    obtain ⟨oa, oc, hov⟩ := hrow.shape
    subst hov
    have hrow1 := hrow
    replace hrow := Lib.hid hrow
    replace hx := Lib.hid hx
    replace hX := Lib.hid hX
    clear hks
    go_enter Tryz.func52, Tryz.ntmps52
    go_wp2_with fail
    refine wp_region_any (by kernel_rfl) ?_
    change wpAny _ _ _ _ _ _ _ (World.drew _)
    refine wpAny_ready (rs := [0, 1]) (by kernel_rfl) (by simp) ?_
    refine AllReady.cons rfl (fun K hK => ?_) (AllReady.cons rfl (fun K hK => ?_) AllReady.nil)
    · go_simp
      refine hK _ _ ?_
      clear hK K
      refine wpAny_ready (rs := [1]) (by kernel_rfl) (by simp) ?_
      refine AllReady.cons rfl (fun K hK => ?_) AllReady.nil
      go_simp
      refine hK _ _ ?_
      clear hK K
      refine wpAny_ready (rs := [2]) (by kernel_rfl) (by simp) ?_
      refine AllReady.cons rfl (fun K hK => ?_) AllReady.nil
      go_simp
      go_at_call 53
      refine hCl.out.mono ?_
      rintro e w3 ⟨u3, rfl, hu3, hb3'⟩
      have hb3 : Below w.heap.size w w3 := below_of_drew hb3'
      obtain ⟨ua3, uc3, hus3⟩ := hu3.shape
      subst hus3
      have cb3 := cell_kept hb3 cb
      have hb3b := hb3.alloc hb3.size (.cells #[.slice ua3 l uc3] 44)
      have cb3b := cell_kept hb3b cb
      have hrow3 := OwX.keep (EWg.stab g (by decide)) hrow1 hb3b
      have hEl3 : EWg g (w3.alloc (.cells #[.slice ua3 l uc3] 44)) [.slice ua3 l uc3] x := ⟨_, rfl, by rw [hxl]; exact (OwX.keep (EI.stab _) hu3 ((Below.refl w3.heap.size w3).alloc (Nat.le_refl _) _)).base (Nat.zero_le _), fun e => (by have h9 := (hu3.blockT e).1; have h8 : w.drew.heap.size = w.heap.size := rfl; omega)⟩
      have hsz3 := Nat.le_trans hBw hb3b.size
      have hon3 : ∀ u ∈ [Value.slice ua3 l uc3], u.oneCell' = true := fun u hu => by rw [List.mem_singleton.1 hu]; rfl
      dsimp only
      refine hK _ _ ?_
      clear hK K
      refine wpAny_ready (rs := [3]) (by kernel_rfl) (by simp) ?_
      refine AllReady.cons rfl (fun K hK => ?_) AllReady.nil
      go_simp
      refine hK _ _ ?_
      clear hK K
      refine wpAny_ready (rs := [4]) (by kernel_rfl) (by simp) ?_
      refine AllReady.cons rfl (fun K hK => ?_) AllReady.nil
      refine step_appX (B := B) (cs := [.slice ua3 l uc3]) (x := x) elemRs (by decide) (by decide) (EWg.stab g (by decide)) (by rfl) _ _ (by rfl) (by rfl) hrow3 ⟨w3.heap.size, 0, none⟩ 1 (by rfl) rfl (cell_one_new _ _ _) hon3 hEl3 hn9 hsz3 ?_
      intro v7 w7 ho7 hg7 hn7 hb7 hx7
      obtain ⟨va7, vc7, hvs7⟩ := ho7.shape
      subst hvs7
      have hbo7 := (hx7 bo _ _ ((hb3b.block bo (Array.getElem?_eq_some_iff.1 hbo).1).trans hbo) (by decide)).trans ((hb3b.block bo (Array.getElem?_eq_some_iff.1 hbo).1).trans hbo)
      have cc7 := cell_of_one hbo7
      have cf7 := free_of_one hbo7
      refine hK _ _ ?_
      clear hK K
      refine wpAny_ready (rs := [5]) (by kernel_rfl) (by simp) ?_
      refine AllReady.cons rfl (fun K hK => ?_) AllReady.nil
      go_simp
      refine hK _ _ ?_
      clear hK K
      refine wpAny_done (by kernel_rfl) ?_ _
      have hset7 := one_setCell (u := .slice va7 (no + 1) vc7) hbo7
      have hb37 : ∀ (j : Nat) (cs : Array Value) (t : TypeId), w.heap[j]? = some (.cells cs t) → t ≠ 44 → w7.heap[j]? = w.heap[j]? := fun j cs t hj ht =>
        have h1 := hb3b.block j (Array.getElem?_eq_some_iff.1 hj).1
        (hx7 j cs t (h1.trans hj) ht).trans h1
      have hsj : ∀ j, j ≠ bo → (w7.setCell ⟨bo, 0, none⟩ (.slice va7 (no + 1) vc7)).heap[j]? = w7.heap[j]? := fun j hj => Below.heap_setCell _ ⟨bo, 0, none⟩ _ j hj
      have hgo : g ≠ bo := fun e => hX.out.og e.symm
      have hfW : WOut (w7.setCell ⟨bo, 0, none⟩ (.slice va7 (no + 1) vc7)) B g bo (out ++ (wL ss 0 s).map (x ++ ·)) := by
        have hl : out ++ (wL ss 0 s).map (x ++ ·) = out ++ [x] := by simp [wL]
        rw [hl]
        exact ⟨_, _, hset7, ho7.other (E' := 38) (EWg.stab g (by decide)) (by decide) (KeepX.setCell (p := ⟨bo, 0, none⟩) hbo7 _), hboB⟩
      have hfX := hx.out.wd7 (w' := w7.setCell ⟨bo, 0, none⟩ (.slice va7 (no + 1) vc7)) ((hsj g hgo).trans (hb37 g _ _ hgt (by decide)))
      have hfK : KW B g bo w (w7.setCell ⟨bo, 0, none⟩ (.slice va7 (no + 1) vc7)) := ⟨Below.setCell (p := ⟨bo, 0, none⟩) ((hb3b.mono hBw).trans hb7) hboB _, fun j cs t hj h1 h2 h3 => (hsj j h2).trans (hb37 j cs t hj h3)⟩
      replace hfW := Lib.hid hfW
      replace hfX := Lib.hid hfX
      replace hfK := Lib.hid hfK
      clear hset7 hb37 hsj ho7 hx7 hrow3 hu3 hEl3 hbo7
      go_wp2
      refine bodyPost_ret (results_none rfl _ _ _) rfl ?_
      exact ⟨rfl, hfW.out, hfX.out, hfK.out⟩
    · go_simp
      refine hK _ _ ?_
      clear hK K
      refine wpAny_ready (rs := [0, 2]) (by kernel_rfl) (by simp) ?_
      refine AllReady.cons rfl (fun K hK => ?_) (AllReady.cons rfl (fun K hK => ?_) AllReady.nil)
      · go_simp
        refine hK _ _ ?_
        clear hK K
        refine wpAny_ready (rs := [2]) (by kernel_rfl) (by simp) ?_
        refine AllReady.cons rfl (fun K hK => ?_) AllReady.nil
        go_simp
        go_at_call 53
        refine hCl.out.mono ?_
        rintro e w3 ⟨u3, rfl, hu3, hb3'⟩
        have hb3 : Below w.heap.size w w3 := below_of_drew hb3'
        obtain ⟨ua3, uc3, hus3⟩ := hu3.shape
        subst hus3
        have cb3 := cell_kept hb3 cb
        have hb3b := hb3.alloc hb3.size (.cells #[.slice ua3 l uc3] 44)
        have cb3b := cell_kept hb3b cb
        have hrow3 := OwX.keep (EWg.stab g (by decide)) hrow1 hb3b
        have hEl3 : EWg g (w3.alloc (.cells #[.slice ua3 l uc3] 44)) [.slice ua3 l uc3] x := ⟨_, rfl, by rw [hxl]; exact (OwX.keep (EI.stab _) hu3 ((Below.refl w3.heap.size w3).alloc (Nat.le_refl _) _)).base (Nat.zero_le _), fun e => (by have h9 := (hu3.blockT e).1; have h8 : w.drew.heap.size = w.heap.size := rfl; omega)⟩
        have hsz3 := Nat.le_trans hBw hb3b.size
        have hon3 : ∀ u ∈ [Value.slice ua3 l uc3], u.oneCell' = true := fun u hu => by rw [List.mem_singleton.1 hu]; rfl
        dsimp only
        refine hK _ _ ?_
        clear hK K
        refine wpAny_ready (rs := [3]) (by kernel_rfl) (by simp) ?_
        refine AllReady.cons rfl (fun K hK => ?_) AllReady.nil
        go_simp
        refine hK _ _ ?_
        clear hK K
        refine wpAny_ready (rs := [4]) (by kernel_rfl) (by simp) ?_
        refine AllReady.cons rfl (fun K hK => ?_) AllReady.nil
        refine step_appX (B := B) (cs := [.slice ua3 l uc3]) (x := x) elemRs (by decide) (by decide) (EWg.stab g (by decide)) (by rfl) _ _ (by rfl) (by rfl) hrow3 ⟨w3.heap.size, 0, none⟩ 1 (by rfl) rfl (cell_one_new _ _ _) hon3 hEl3 hn9 hsz3 ?_
        intro v7 w7 ho7 hg7 hn7 hb7 hx7
        obtain ⟨va7, vc7, hvs7⟩ := ho7.shape
        subst hvs7
        have hbo7 := (hx7 bo _ _ ((hb3b.block bo (Array.getElem?_eq_some_iff.1 hbo).1).trans hbo) (by decide)).trans ((hb3b.block bo (Array.getElem?_eq_some_iff.1 hbo).1).trans hbo)
        have cc7 := cell_of_one hbo7
        have cf7 := free_of_one hbo7
        refine hK _ _ ?_
        clear hK K
        refine wpAny_ready (rs := [5]) (by kernel_rfl) (by simp) ?_
        refine AllReady.cons rfl (fun K hK => ?_) AllReady.nil
        go_simp
        refine hK _ _ ?_
        clear hK K
        refine wpAny_done (by kernel_rfl) ?_ _
        have hset7 := one_setCell (u := .slice va7 (no + 1) vc7) hbo7
        have hb37 : ∀ (j : Nat) (cs : Array Value) (t : TypeId), w.heap[j]? = some (.cells cs t) → t ≠ 44 → w7.heap[j]? = w.heap[j]? := fun j cs t hj ht =>
          have h1 := hb3b.block j (Array.getElem?_eq_some_iff.1 hj).1
          (hx7 j cs t (h1.trans hj) ht).trans h1
        have hsj : ∀ j, j ≠ bo → (w7.setCell ⟨bo, 0, none⟩ (.slice va7 (no + 1) vc7)).heap[j]? = w7.heap[j]? := fun j hj => Below.heap_setCell _ ⟨bo, 0, none⟩ _ j hj
        have hgo : g ≠ bo := fun e => hX.out.og e.symm
        have hfW : WOut (w7.setCell ⟨bo, 0, none⟩ (.slice va7 (no + 1) vc7)) B g bo (out ++ (wL ss 0 s).map (x ++ ·)) := by
          have hl : out ++ (wL ss 0 s).map (x ++ ·) = out ++ [x] := by simp [wL]
          rw [hl]
          exact ⟨_, _, hset7, ho7.other (E' := 38) (EWg.stab g (by decide)) (by decide) (KeepX.setCell (p := ⟨bo, 0, none⟩) hbo7 _), hboB⟩
        have hfX := hx.out.wd7 (w' := w7.setCell ⟨bo, 0, none⟩ (.slice va7 (no + 1) vc7)) ((hsj g hgo).trans (hb37 g _ _ hgt (by decide)))
        have hfK : KW B g bo w (w7.setCell ⟨bo, 0, none⟩ (.slice va7 (no + 1) vc7)) := ⟨Below.setCell (p := ⟨bo, 0, none⟩) ((hb3b.mono hBw).trans hb7) hboB _, fun j cs t hj h1 h2 h3 => (hsj j h2).trans (hb37 j cs t hj h3)⟩
        replace hfW := Lib.hid hfW
        replace hfX := Lib.hid hfX
        replace hfK := Lib.hid hfK
        clear hset7 hb37 hsj ho7 hx7 hrow3 hu3 hEl3 hbo7
        go_wp2
        refine bodyPost_ret (results_none rfl _ _ _) rfl ?_
        exact ⟨rfl, hfW.out, hfX.out, hfK.out⟩
      · go_simp
        go_at_call 53
        refine hCl.out.mono ?_
        rintro e w3 ⟨u3, rfl, hu3, hb3'⟩
        have hb3 : Below w.heap.size w w3 := below_of_drew hb3'
        obtain ⟨ua3, uc3, hus3⟩ := hu3.shape
        subst hus3
        have cb3 := cell_kept hb3 cb
        have hb3b := hb3.alloc hb3.size (.cells #[.slice ua3 l uc3] 44)
        have cb3b := cell_kept hb3b cb
        have hrow3 := OwX.keep (EWg.stab g (by decide)) hrow1 hb3b
        have hEl3 : EWg g (w3.alloc (.cells #[.slice ua3 l uc3] 44)) [.slice ua3 l uc3] x := ⟨_, rfl, by rw [hxl]; exact (OwX.keep (EI.stab _) hu3 ((Below.refl w3.heap.size w3).alloc (Nat.le_refl _) _)).base (Nat.zero_le _), fun e => (by have h9 := (hu3.blockT e).1; have h8 : w.drew.heap.size = w.heap.size := rfl; omega)⟩
        have hsz3 := Nat.le_trans hBw hb3b.size
        have hon3 : ∀ u ∈ [Value.slice ua3 l uc3], u.oneCell' = true := fun u hu => by rw [List.mem_singleton.1 hu]; rfl
        dsimp only
        refine hK _ _ ?_
        clear hK K
        refine wpAny_ready (rs := [0, 3]) (by kernel_rfl) (by simp) ?_
        refine AllReady.cons rfl (fun K hK => ?_) (AllReady.cons rfl (fun K hK => ?_) AllReady.nil)
        · go_simp
          refine hK _ _ ?_
          clear hK K
          refine wpAny_ready (rs := [3]) (by kernel_rfl) (by simp) ?_
          refine AllReady.cons rfl (fun K hK => ?_) AllReady.nil
          go_simp
          refine hK _ _ ?_
          clear hK K
          refine wpAny_ready (rs := [4]) (by kernel_rfl) (by simp) ?_
          refine AllReady.cons rfl (fun K hK => ?_) AllReady.nil
          refine step_appX (B := B) (cs := [.slice ua3 l uc3]) (x := x) elemRs (by decide) (by decide) (EWg.stab g (by decide)) (by rfl) _ _ (by rfl) (by rfl) hrow3 ⟨w3.heap.size, 0, none⟩ 1 (by rfl) rfl (cell_one_new _ _ _) hon3 hEl3 hn9 hsz3 ?_
          intro v7 w7 ho7 hg7 hn7 hb7 hx7
          obtain ⟨va7, vc7, hvs7⟩ := ho7.shape
          subst hvs7
          have hbo7 := (hx7 bo _ _ ((hb3b.block bo (Array.getElem?_eq_some_iff.1 hbo).1).trans hbo) (by decide)).trans ((hb3b.block bo (Array.getElem?_eq_some_iff.1 hbo).1).trans hbo)
          have cc7 := cell_of_one hbo7
          have cf7 := free_of_one hbo7
          refine hK _ _ ?_
          clear hK K
          refine wpAny_ready (rs := [5]) (by kernel_rfl) (by simp) ?_
          refine AllReady.cons rfl (fun K hK => ?_) AllReady.nil
          go_simp
          refine hK _ _ ?_
          clear hK K
          refine wpAny_done (by kernel_rfl) ?_ _
          have hset7 := one_setCell (u := .slice va7 (no + 1) vc7) hbo7
          have hb37 : ∀ (j : Nat) (cs : Array Value) (t : TypeId), w.heap[j]? = some (.cells cs t) → t ≠ 44 → w7.heap[j]? = w.heap[j]? := fun j cs t hj ht =>
            have h1 := hb3b.block j (Array.getElem?_eq_some_iff.1 hj).1
            (hx7 j cs t (h1.trans hj) ht).trans h1
          have hsj : ∀ j, j ≠ bo → (w7.setCell ⟨bo, 0, none⟩ (.slice va7 (no + 1) vc7)).heap[j]? = w7.heap[j]? := fun j hj => Below.heap_setCell _ ⟨bo, 0, none⟩ _ j hj
          have hgo : g ≠ bo := fun e => hX.out.og e.symm
          have hfW : WOut (w7.setCell ⟨bo, 0, none⟩ (.slice va7 (no + 1) vc7)) B g bo (out ++ (wL ss 0 s).map (x ++ ·)) := by
            have hl : out ++ (wL ss 0 s).map (x ++ ·) = out ++ [x] := by simp [wL]
            rw [hl]
            exact ⟨_, _, hset7, ho7.other (E' := 38) (EWg.stab g (by decide)) (by decide) (KeepX.setCell (p := ⟨bo, 0, none⟩) hbo7 _), hboB⟩
          have hfX := hx.out.wd7 (w' := w7.setCell ⟨bo, 0, none⟩ (.slice va7 (no + 1) vc7)) ((hsj g hgo).trans (hb37 g _ _ hgt (by decide)))
          have hfK : KW B g bo w (w7.setCell ⟨bo, 0, none⟩ (.slice va7 (no + 1) vc7)) := ⟨Below.setCell (p := ⟨bo, 0, none⟩) ((hb3b.mono hBw).trans hb7) hboB _, fun j cs t hj h1 h2 h3 => (hsj j h2).trans (hb37 j cs t hj h3)⟩
          replace hfW := Lib.hid hfW
          replace hfX := Lib.hid hfX
          replace hfK := Lib.hid hfK
          clear hset7 hb37 hsj ho7 hx7 hrow3 hu3 hEl3 hbo7
          go_wp2
          refine bodyPost_ret (results_none rfl _ _ _) rfl ?_
          exact ⟨rfl, hfW.out, hfX.out, hfK.out⟩
        · go_simp
          refine hK _ _ ?_
          clear hK K
          refine wpAny_ready (rs := [0]) (by kernel_rfl) (by simp) ?_
          refine AllReady.cons rfl (fun K hK => ?_) AllReady.nil
          go_simp
          refine hK _ _ ?_
          clear hK K
          refine wpAny_ready (rs := [4]) (by kernel_rfl) (by simp) ?_
          refine AllReady.cons rfl (fun K hK => ?_) AllReady.nil
          refine step_appX (B := B) (cs := [.slice ua3 l uc3]) (x := x) elemRs (by decide) (by decide) (EWg.stab g (by decide)) (by rfl) _ _ (by rfl) (by rfl) hrow3 ⟨w3.heap.size, 0, none⟩ 1 (by rfl) rfl (cell_one_new _ _ _) hon3 hEl3 hn9 hsz3 ?_
          intro v7 w7 ho7 hg7 hn7 hb7 hx7
          obtain ⟨va7, vc7, hvs7⟩ := ho7.shape
          subst hvs7
          have hbo7 := (hx7 bo _ _ ((hb3b.block bo (Array.getElem?_eq_some_iff.1 hbo).1).trans hbo) (by decide)).trans ((hb3b.block bo (Array.getElem?_eq_some_iff.1 hbo).1).trans hbo)
          have cc7 := cell_of_one hbo7
          have cf7 := free_of_one hbo7
          refine hK _ _ ?_
          clear hK K
          refine wpAny_ready (rs := [5]) (by kernel_rfl) (by simp) ?_
          refine AllReady.cons rfl (fun K hK => ?_) AllReady.nil
          go_simp
          refine hK _ _ ?_
          clear hK K
          refine wpAny_done (by kernel_rfl) ?_ _
          have hset7 := one_setCell (u := .slice va7 (no + 1) vc7) hbo7
          have hb37 : ∀ (j : Nat) (cs : Array Value) (t : TypeId), w.heap[j]? = some (.cells cs t) → t ≠ 44 → w7.heap[j]? = w.heap[j]? := fun j cs t hj ht =>
            have h1 := hb3b.block j (Array.getElem?_eq_some_iff.1 hj).1
            (hx7 j cs t (h1.trans hj) ht).trans h1
          have hsj : ∀ j, j ≠ bo → (w7.setCell ⟨bo, 0, none⟩ (.slice va7 (no + 1) vc7)).heap[j]? = w7.heap[j]? := fun j hj => Below.heap_setCell _ ⟨bo, 0, none⟩ _ j hj
          have hgo : g ≠ bo := fun e => hX.out.og e.symm
          have hfW : WOut (w7.setCell ⟨bo, 0, none⟩ (.slice va7 (no + 1) vc7)) B g bo (out ++ (wL ss 0 s).map (x ++ ·)) := by
            have hl : out ++ (wL ss 0 s).map (x ++ ·) = out ++ [x] := by simp [wL]
            rw [hl]
            exact ⟨_, _, hset7, ho7.other (E' := 38) (EWg.stab g (by decide)) (by decide) (KeepX.setCell (p := ⟨bo, 0, none⟩) hbo7 _), hboB⟩
          have hfX := hx.out.wd7 (w' := w7.setCell ⟨bo, 0, none⟩ (.slice va7 (no + 1) vc7)) ((hsj g hgo).trans (hb37 g _ _ hgt (by decide)))
          have hfK : KW B g bo w (w7.setCell ⟨bo, 0, none⟩ (.slice va7 (no + 1) vc7)) := ⟨Below.setCell (p := ⟨bo, 0, none⟩) ((hb3b.mono hBw).trans hb7) hboB _, fun j cs t hj h1 h2 h3 => (hsj j h2).trans (hb37 j cs t hj h3)⟩
          replace hfW := Lib.hid hfW
          replace hfX := Lib.hid hfX
          replace hfK := Lib.hid hfK
          clear hset7 hb37 hsj ho7 hx7 hrow3 hu3 hEl3 hbo7
          go_wp2
          refine bodyPost_ret (results_none rfl _ _ _) rfl ?_
          exact ⟨rfl, hfW.out, hfX.out, hfK.out⟩
  | succ m ih =>
    intro w l s x out hlk hs hxl hb0 hBw hX hx hW hbd
    have hlne : ((l : Int) == (k : Int)) = false := beq_eq_false_iff_ne.2 (by omega)
    have ck := cell_of_one hX.k
    have hsl := hK
    obtain ⟨sa, sc, sb, so, rfl, hsa, hsc, _⟩ := hsl
    obtain rfl := hsa (by omega)
    obtain ⟨ca0, ca⟩ := box2 hX.a
    obtain ⟨u, hu, hks⟩ := hsc s hs
    have hur := cell_kept hb0 hu
    have hmem : ss.getD s [] ∈ ss := by rw [getD_eq hs]; exact List.getElem_mem hs
    have hmt : Hid (∀ mv ∈ ss.getD s [], 0 ≤ mv.getD 7 0 ∧ mv.getD 7 0 < (ss.length : Int)) := fun mv hmv => hM _ hmem mv hmv
    obtain ⟨ms, hms⟩ : ∃ ms, ss.getD s [] = ms := ⟨_, rfl⟩
    have hwl : wL ss (m + 1) s = wF ss m ms := by rw [wL, hms]; rfl
    rw [hms] at hks hmt
    rw [hwl] at hbd ⊢
    obtain ⟨ua, uc, ub, uo, rfl, hua, hmc, hul⟩ := hks
    have hmcw := Lib.hid (fun W (hW : Below w0.heap.size w0 W) j (hj : j < ms.length) => And.intro (hmc j hj).1 ((hmc j hj).2.keep hW))
    have hsi : (s : Int) < (ss.length : Int) := by omega
    have hW0 : WOut w B g bo (out ++ (wF ss m (ms.take 0)).map (x ++ ·)) := by
      have : out ++ (wF ss m (ms.take 0)).map (x ++ ·) = out := by simp [wF]
      rw [this]; exact hW
    have hk0 := KW.refl B g bo w
    have hx0 := hx
    replace hX := Lib.hid hX
    replace hms := Lib.hid hms
    replace hbd := Lib.hid hbd
    clear hwl hmem hu hmc hW hsc
    go_enter Tryz.func52, Tryz.ntmps52
    go_wp2_with fail
    go_loopw [25] (fun iv wr => ∃ i : Nat, iv = .int .i64 i ∧ i ≤ ms.length ∧ WOut wr B g bo (out ++ (wF ss m (ms.take i)).map (x ++ ·)) ∧ OwX 51 7 EI wr B (.slice (some ⟨g, 0, none⟩) l cap) l x ∧ KW B g bo w wr) (fun iv _ => ms.length - (intOf iv).toNat)
    case atStart => exact ⟨0, rfl, by omega, hW0, hx0, hk0⟩
    case round =>
      clear hW0 hx0 hk0 hx ck ca0 ca hur
      obtain ⟨i, rfl, hi, hWr, hxr, hkr⟩ := hrel
      have hXr := hX.out.kw hkr
      have hb0r : Below w0.heap.size w0 wr := hb0.trans (hkr.1.mono hB0)
      have hBr : B ≤ wr.heap.size := Nat.le_trans hBw hkr.1.size
      by_cases hlt : i < ms.length
      · have hii : (i : Int) < (ms.length : Int) := by omega
        obtain rfl := hua (by omega)
        obtain ⟨hm8, hmk⟩ := hmcw.out wr hb0r i hlt
        obtain ⟨mv, hmv⟩ : ∃ mv, ms.getD i [] = mv := ⟨_, rfl⟩
        have hmr := hmt.out mv (by rw [← hmv, getD_eq hlt]; exact List.getElem_mem hlt)
        rw [hmv] at hm8 hmk
        obtain ⟨y0, y1, y2, y3, y4, y5, y6, y7, rfl⟩ := eight hm8
        replace hmr : 0 ≤ y7 ∧ y7 < (ss.length : Int) := hmr
        obtain ⟨q, rfl⟩ : ∃ q : Nat, y7 = (q : Int) := ⟨y7.toNat, by omega⟩
        have hqs : q < ss.length := by omega
        obtain ⟨c0, c1, c2, c3, c4, c5, c6, c7⟩ := hmk.all8
        have hstep := wF_step (ss := ss) (m := m) hlt hmv
        have hmq : mvTo [y0, y1, y2, y3, y4, y5, y6, (q : Int)] = q := rfl
        have hrq : rdOf [y0, y1, y2, y3, y4, y5, y6, (q : Int)] = [y0, y1, y2, y3, y4, y5, y6] := rfl
        rw [hmq, hrq] at hstep
        have hfin : Hid (out ++ (wF ss m (ms.take i)).map (x ++ ·) ++ (wL ss m q).map ((x ++ [[y0, y1, y2, y3, y4, y5, y6]]) ++ ·) = out ++ (wF ss m (ms.take (i + 1))).map (x ++ ·)) := by
          show _ = _
          rw [hstep, List.map_append, List.map_map, List.append_assoc]
          congr 2
          refine List.map_congr_left fun y _ => ?_
          show (x ++ [[y0, y1, y2, y3, y4, y5, y6]]) ++ y = x ++ ([y0, y1, y2, y3, y4, y5, y6] :: y)
          rw [List.append_assoc]; rfl
        have hbd2 : (out ++ (wF ss m (ms.take i)).map (x ++ ·)).length + (wL ss m q).length ≤ 1000000 := by
          have h1 := wF_le ss m (i + 1) ms
          have h2 := hbd.out
          rw [hstep, List.length_append, List.length_map] at h1
          rw [List.length_append, List.length_map]
          omega
        obtain ⟨Wb, hWb⟩ : ∃ Wb, Wb = wr.alloc (.cells #[.int .i64 y0, .int .i64 y1, .int .i64 y2, .int .i64 y3, .int .i64 y4, .int .i64 y5, .int .i64 y6, .int .i64 (q : Int)] 58) := ⟨_, rfl⟩
        have hbb : Below wr.heap.size wr Wb := by rw [hWb]; exact (Below.refl _ _).alloc (Nat.le_refl _) _
        have mb : Wb.heap[wr.heap.size]? = some (.cells #[.int .i64 y0, .int .i64 y1, .int .i64 y2, .int .i64 y3, .int .i64 y4, .int .i64 y5, .int .i64 y6, .int .i64 (q : Int)] 58) := by rw [hWb]; exact heap_alloc_new _ _
        obtain ⟨p0, p1, p2, p3, p4, p5, p6, p7⟩ := box8 mb
        have hXb := hXr.kw (KW.below hbb hBr)
        have cfb := cell_of_one hXb.f
        obtain ⟨hgB', hgl, gcs, hgt⟩ := hxr.blockT (g := g) rfl
        have hbol : bo < wr.heap.size := by obtain ⟨_, _, h1, _⟩ := hWr; exact (Array.getElem?_eq_some_iff.1 h1).1
        have hrg : wr.heap.size ≠ g := by omega
        have hro : wr.heap.size ≠ bo := by omega
        have hbA : Below wr.heap.size wr (Wb.alloc (.cells #[.int .i64 y0, .int .i64 y1, .int .i64 y2, .int .i64 y3, .int .i64 y4, .int .i64 y5, .int .i64 y6] 51)).drew := (hbb.alloc hbb.size _).drew
        have hxA : OwX 51 7 EI (Wb.alloc (.cells #[.int .i64 y0, .int .i64 y1, .int .i64 y2, .int .i64 y3, .int .i64 y4, .int .i64 y5, .int .i64 y6] 51)).drew B (.slice (some ⟨g, 0, none⟩) l cap) l x := hxr.wd7 (hbA.block g hgl)
        have mA : (Wb.alloc (.cells #[.int .i64 y0, .int .i64 y1, .int .i64 y2, .int .i64 y3, .int .i64 y4, .int .i64 y5, .int .i64 y6] 51)).drew.heap[wr.heap.size]? = some (.cells #[.int .i64 y0, .int .i64 y1, .int .i64 y2, .int .i64 y3, .int .i64 y4, .int .i64 y5, .int .i64 y6, .int .i64 (q : Int)] 58) := (Below.heap_alloc Wb (.cells #[.int .i64 y0, .int .i64 y1, .int .i64 y2, .int .i64 y3, .int .i64 y4, .int .i64 y5, .int .i64 y6] 51) wr.heap.size (Array.getElem?_eq_some_iff.1 mb).1).trans mb
        have hnA : ∀ j u, ([.int .i64 y0, .int .i64 y1, .int .i64 y2, .int .i64 y3, .int .i64 y4, .int .i64 y5, .int .i64 y6] : List Value)[j]? = some u → (Wb.alloc (.cells #[.int .i64 y0, .int .i64 y1, .int .i64 y2, .int .i64 y3, .int .i64 y4, .int .i64 y5, .int .i64 y6] 51)).drew.cell? ((⟨Wb.heap.size, 0, none⟩ : Addr).add j) = some u := World.news_of_block (heap_alloc_new Wb (.cells #[.int .i64 y0, .int .i64 y1, .int .i64 y2, .int .i64 y3, .int .i64 y4, .int .i64 y5, .int .i64 y6] 51))
        have hc7 : ∀ u ∈ ([.int .i64 y0, .int .i64 y1, .int .i64 y2, .int .i64 y3, .int .i64 y4, .int .i64 y5, .int .i64 y6] : List Value), u.oneCell' = true := fun u hu => by
          simp only [List.mem_cons, List.not_mem_nil, or_false] at hu
          rcases hu with rfl | rfl | rfl | rfl | rfl | rfl | rfl <;> rfl
        have hroom : l + 1 ≤ cap := by omega
        have hkA : KW B g bo wr (Wb.alloc (.cells #[.int .i64 y0, .int .i64 y1, .int .i64 y2, .int .i64 y3, .int .i64 y4, .int .i64 y5, .int .i64 y6] 51)).drew := KW.below hbA hBr
        have hBA : B ≤ (Wb.alloc (.cells #[.int .i64 y0, .int .i64 y1, .int .i64 y2, .int .i64 y3, .int .i64 y4, .int .i64 y5, .int .i64 y6] 51)).drew.heap.size := Nat.le_trans hBr hbA.size
        have hst9 := Lib.hid (fun w7 (ho7 : OwX 51 7 EI w7 B (.slice (some ⟨g, 0, none⟩) (l + 1) cap) (l + 1) (x ++ [[y0, y1, y2, y3, y4, y5, y6]])) (hg7 : (Wb.alloc (.cells #[.int .i64 y0, .int .i64 y1, .int .i64 y2, .int .i64 y3, .int .i64 y4, .int .i64 y5, .int .i64 y6] 51)).drew.grownBy w7 (some g)) =>
          have hk7 : KW B g bo wr w7 := hkA.trans (KW.grown hg7 hBA hgB)
          ih (w := w7) (l := l + 1) (s := q) (x := x ++ [[y0, y1, y2, y3, y4, y5, y6]]) (out := out ++ (wF ss m (ms.take i)).map (x ++ ·)) (by omega) hqs (by rw [List.length_append, hxl]; rfl) (hb0r.trans (hk7.1.mono hB0)) (Nat.le_trans hBr hk7.1.size) (hXr.kw hk7) ho7
            (hWr.keepG ⟨gcs, hgt⟩ (fun j hj hjg => (hg7.block j (Nat.lt_of_lt_of_le hj hbA.size) (by simpa using hjg)).trans (hbA.block j hj))) hbd2)
        replace hXr := Lib.hid hXr
        replace hXb := Lib.hid hXb
        replace hWr := Lib.hid hWr
        replace hmv := Lib.hid hmv
        replace mA := Lib.hid mA
        replace hgt := Lib.hid hgt
        clear hm8 hmk hmr hstep hbd2 mb hmq hrq
        have ca1 := (box2 hXr.out.a).2
        go_wp2_with fail
        rw [← hWb]
        clear hWb
        go_region_held3 (fun w' => w'.cell? ⟨bf, 0, none⟩ = some (.func (.func 52) #[] #[.pointer (some ⟨bk, 0, none⟩), .pointer (some ⟨bo, 0, none⟩), .pointer (some ⟨ba, 0, none⟩), .pointer (some ⟨bf, 0, none⟩)]) ∧ w'.cell? ⟨wr.heap.size, 0, none⟩ = some (.int .i64 y0) ∧ w'.cell? ⟨wr.heap.size, 1, none⟩ = some (.int .i64 y1) ∧ w'.cell? ⟨wr.heap.size, 2, none⟩ = some (.int .i64 y2) ∧ w'.cell? ⟨wr.heap.size, 3, none⟩ = some (.int .i64 y3) ∧ w'.cell? ⟨wr.heap.size, 4, none⟩ = some (.int .i64 y4) ∧ w'.cell? ⟨wr.heap.size, 5, none⟩ = some (.int .i64 y5) ∧ w'.cell? ⟨wr.heap.size, 6, none⟩ = some (.int .i64 y6) ∧ w'.cell? ⟨wr.heap.size, 7, none⟩ = some (.int .i64 (q : Int)))
          (first
            | go_keep
            | (exact ⟨cf9, r0, r1, r2, r3, r4, r5, r6, r7⟩)
            | (exact ⟨cf7, z0, z1, z2, z3, z4, z5, z6, z7⟩))
          (first
            | ((refine step_appW (B := B) (x := x) (r := [y0, y1, y2, y3, y4, y5, y6]) (cs := [.int .i64 y0, .int .i64 y1, .int .i64 y2, .int .i64 y3, .int .i64 y4, .int .i64 y5, .int .i64 y6]) (by rfl) _ _ (by rfl) (by rfl) hxA ⟨Wb.heap.size, 0, none⟩ 1 (by rfl) rfl hnA hc7 rfl hroom ?_; intro w7 ho7 hg7; have hk7 : KW B g bo wr w7 := hkA.trans (KW.grown hg7 hBA hgB); have cf7 := cell_of_one (hXr.out.kw hk7).f; have m7 := (KW.grown (bo := bo) hg7 hBA hgB).box mA.out hrg hro (by decide); obtain ⟨z0, z1, z2, z3, z4, z5, z6, z7⟩ := box8 m7; replace m7 := Lib.hid m7))
            | (go_at_call 52; refine (hst9.out w7 ho7 hg7).mono ?_; rintro e w9 ⟨rfl, hW9, hx9, hk9⟩; have cf9 := cell_of_one ((hXr.out.kw hk7).kw hk9).f; obtain ⟨r0, r1, r2, r3, r4, r5, r6, r7⟩ := box8 (hk9.box m7.out hrg hro (by decide))))
        rw [hfin.out] at hW9
        have hxf := hx9.pre hxl
        have hkf := hkr.trans (hk7.trans hk9)
        clear ho7 hx9 hk9 hk7
        go_wp2
        go_roundw
        case rel => exact ⟨i + 1, by go_num, hlt, hW9, hxf, hkf⟩
        case measure => simp [intOf]; omega
      · obtain rfl : i = ms.length := by omega
        have hge : ¬ ((ms.length : Int) < (ms.length : Int)) := by omega
        rw [List.take_length] at hWr
        go_wp2
        first
          | go_end0
          | refine bodyPost_ret (results_none rfl _ _ _) rfl ?_
        exact ⟨rfl, hWr, hxr, hkr⟩
end Go.Proofs.YtiiiegflobihjaaGreat

/- Texts of this claim, put together: J6 J4 U2 U3 U4 U5 M1 W0 FB0. -/
import Derived.Test.YtiiiegflobihjaaGreatKMeetsv
import Derived.Test.YtiiiegflobihjaaGreatKMeetsk
import Derived.Test.YtiiiegflobihjaaGreatKMeetsq
import Derived.Test.YtiiiegflobihjaaGreatKMeetsj
import Derived.Test.YtiiiegflobihjaaGreatKMeetsh
import Derived.Test.YtiiiegflobihjaaGreatKMeetsb
import Derived.Lib.Builder
import Derived.Lib.AppendStr
import Derived.Lib.UnsafeStr
import Derived.Lib.Strings
import Derived.Lib.Slices
import Derived.Lib.Walk
import Derived.Laws.Externs
import Derived.Laws.IdiomCopy
import Derived.OwnWalkIn
import Derived.RangeFuncBox
import Derived.BigQuiet
import Derived.Deep.RegionHeld3

/- canonical.distinguish: a pair is put into the queue: what stands behind it. -/
namespace Go.Proofs.YtiiiegflobihjaaGreat
open Go.RowKit Go.ChangeMaps Go.MapKept Go.WideMaps

theorem SNP.ne {w : World} {b g : Nat} {K : List (Nat × Nat)} (h : SNP w b K) {cs : Array Value} {t : TypeId} (hg : w.heap[g]? = some (.cells cs t)) : b ≠ g := fun e => by
  obtain ⟨es, clock, hb, _⟩ := h
  rw [e, hg] at hb
  cases hb
end Go.Proofs.YtiiiegflobihjaaGreat

/- canonical.distinguish. -/
namespace Go.Proofs.YtiiiegflobihjaaGreat
open Go.RowKit Go.ChangeMaps Go.MapKept Go.WideMaps

theorem QB.one {ss : List (List (List Int))} {s t : Nat} (hs : s < ss.length) (ht : t < ss.length) : QB ss [((s, t), [])] := ⟨⟨by simp, by simp [hs, ht]⟩, fun j => by
  match j with
  | 0 => simp
  | _ + 1 => simp⟩
end Go.Proofs.YtiiiegflobihjaaGreat

/- What the search for a distinguishing word finds: plain lists. -/
namespace Go.Proofs.YtiiiegflobihjaaGreat

theorem afterI_app {ss : List (List (List Int))} {v : List (List Int)} : ∀ {u : List (List Int)} {s : Nat}, afterI ss (u ++ v) s = if afterI ss u s < 0 then -1 else afterI ss v (afterI ss u s).toNat
  | [], s => by
    rw [List.nil_append, afterI, if_neg (by omega), Int.toNat_natCast]
  | r :: u, s => by
    rw [List.cons_append, afterI, afterI]
    by_cases h : toI r (ss.getD s []) < 0
    · rw [if_pos h, if_pos h, if_pos (by decide)]
    · rw [if_neg h, if_neg h, afterI_app]
theorem afterI_one {ss : List (List (List Int))} {r : List Int} {s : Nat} : afterI ss [r] s = if toI r (ss.getD s []) < 0 then -1 else toI r (ss.getD s []) := by
  rw [afterI]
  by_cases h : toI r (ss.getD s []) < 0
  · rw [if_pos h, if_pos h]
  · rw [if_neg h, if_neg h, afterI]; omega
theorem alw_snoc {ss : List (List (List Int))} {u : List (List Int)} {r : List Int} {s p : Nat} (h : afterI ss u s = (p : Int)) : alw ss (u ++ [r]) s ↔ 0 ≤ toI r (ss.getD p []) := by
  rw [alw_after, afterI_app, h, if_neg (by omega), Int.toNat_natCast, afterI_one]
  split
  · constructor
    · intro h; exact absurd h (by decide)
    · intro h; omega
  · rfl
theorem alw_pre {ss : List (List (List Int))} {u v : List (List Int)} {s : Nat} (h : alw ss (u ++ v) s) : alw ss u s := by
  rw [alw_after] at h ⊢
  rw [afterI_app] at h
  by_cases hu : afterI ss u s < 0
  · rw [if_pos hu] at h; exact absurd h (by decide)
  · omega

section
variable (ss : List (List (List Int))) (s t : Nat)
/-- The queue so far: the first m items were searched, and of item m the rounds D. -/
structure BfsInv (m : Nat) (D : List (List Int)) (Q : List It) : Prop where
  zero : 0 < Q.length ∧ Q.getD 0 ((0, 0), []) = ((s, t), [])
  run : ∀ j, j < Q.length → afterI ss (Q.getD j ((0, 0), [])).2 s = ((Q.getD j ((0, 0), [])).1.1 : Int) ∧ afterI ss (Q.getD j ((0, 0), [])).2 t = ((Q.getD j ((0, 0), [])).1.2 : Int)
  up : ∀ i j, i ≤ j → j < Q.length → (Q.getD i ((0, 0), [])).2.length ≤ (Q.getD j ((0, 0), [])).2.length
  top : m < Q.length → ∀ j, j < Q.length → (Q.getD j ((0, 0), [])).2.length ≤ (Q.getD m ((0, 0), [])).2.length + 1
  old : ∀ i, i < Q.length → ∀ r, (i < m ∧ r ∈ ltr ss (Q.getD i ((0, 0), [])).1.1 (Q.getD i ((0, 0), [])).1.2) ∨ (i = m ∧ r ∈ D) →
    0 ≤ toI r (ss.getD (Q.getD i ((0, 0), [])).1.1 []) ∧ 0 ≤ toI r (ss.getD (Q.getD i ((0, 0), [])).1.2 []) ∧ ∃ y ∈ Q, y.1 = dP ss r (Q.getD i ((0, 0), [])).1 ∧ y.2.length ≤ (Q.getD i ((0, 0), [])).2.length + 1
end
section
variable {ss : List (List (List Int))} {s t : Nat}
theorem ltr_mem (hM : LeadOK ss) {p q : Nat} {r : List Int} : r ∈ ltr ss p q ↔ 0 ≤ toI r (ss.getD p []) ∨ 0 ≤ toI r (ss.getD q []) := by
  rw [ltr, mg_mem, toI_in (lead_mem hM p), toI_in (lead_mem hM q)]
/-- Words that are no longer than what was searched tell nothing apart. -/
theorem BfsInv.reach (hM : LeadOK ss) {m : Nat} {D : List (List Int)} {Q : List It} (h : BfsInv ss s t m D Q) {L : Nat} (hL : ∀ j, j < Q.length → (Q.getD j ((0, 0), [])).2.length < L → j < m) :
    ∀ (N : Nat) (u : List (List Int)), u.length = N → N ≤ L → (∃ y ∈ Q, afterI ss u s = (y.1.1 : Int) ∧ afterI ss u t = (y.1.2 : Int) ∧ y.2.length ≤ u.length) ∨ (¬ alw ss u s ∧ ¬ alw ss u t)
  | 0, u, hu, _ => by
    obtain rfl := List.length_eq_zero_iff.1 hu
    left
    refine ⟨((s, t), []), ?_, rfl, rfl, Nat.le_refl _⟩
    rw [← h.zero.2, getD_eq h.zero.1]
    exact List.getElem_mem _
  | N + 1, u, hu, hN => by
    have hne : u ≠ [] := fun e => by rw [e] at hu; simp at hu
    obtain ⟨u', r, rfl⟩ : ∃ u' r, u = u' ++ [r] := ⟨u.dropLast, u.getLast hne, (List.dropLast_concat_getLast hne).symm⟩
    rw [List.length_append] at hu
    have hu' : u'.length = N := by simpa using hu
    rcases BfsInv.reach hM h hL N u' hu' (by omega) with ⟨y, hy, h1, h2, h3⟩ | ⟨h1, h2⟩
    · obtain ⟨i, hi, hiy⟩ := List.getElem_of_mem hy
      have hgi : Q.getD i ((0, 0), []) = y := by rw [getD_eq hi]; exact hiy
      have him : i < m := hL i hi (by rw [hgi]; omega)
      by_cases hr : r ∈ ltr ss y.1.1 y.1.2
      · obtain ⟨a1, a2, z, hz, a3, a4⟩ := h.old i hi r (.inl ⟨him, by rw [hgi]; exact hr⟩)
        rw [hgi] at a1 a2 a3 a4
        left
        refine ⟨z, hz, ?_, ?_, by rw [List.length_append]; simp; omega⟩
        · rw [afterI_app, h1, if_neg (by omega), Int.toNat_natCast, afterI_one, if_neg (by omega), a3]
          show _ = (((toI r (ss.getD y.1.1 [])).toNat : Nat) : Int)
          omega
        · rw [afterI_app, h2, if_neg (by omega), Int.toNat_natCast, afterI_one, if_neg (by omega), a3]
          show _ = (((toI r (ss.getD y.1.2 [])).toNat : Nat) : Int)
          omega
      · right
        rw [ltr_mem hM, not_or] at hr
        rw [alw_snoc h1, alw_snoc h2]
        exact hr
    · right
      exact ⟨fun hh => h1 (alw_pre hh), fun hh => h2 (alw_pre hh)⟩
theorem BfsInv.same (hM : LeadOK ss) {m : Nat} {D : List (List Int)} {Q : List It} (h : BfsInv ss s t m D Q) {L : Nat} (hL : ∀ j, j < Q.length → (Q.getD j ((0, 0), [])).2.length < L → j < m) {u : List (List Int)} (hu : u.length ≤ L) : alw ss u s ↔ alw ss u t := by
  rcases h.reach hM hL _ u rfl hu with ⟨y, _, h1, h2, _⟩ | ⟨h1, h2⟩
  · rw [alw_after, alw_after, h1, h2]
    exact ⟨fun _ => by omega, fun _ => by omega⟩
  · exact ⟨fun h => absurd h h1, fun h => absurd h h2⟩
end
end Go.Proofs.YtiiiegflobihjaaGreat

/- The canonical form: it is well-formed, has the same words, is minimal and its own form. Plain lists. -/
namespace Go.Proofs.YtiiiegflobihjaaGreat

section
/-- A small, well-formed adversary. -/
def SmA (n : Int) (ss : List (List (List Int))) : Prop := (∀ s ∈ ss, ∀ m ∈ s, m.length = 8) ∧ chkA n ss = 0 ∧ ss.length ≤ 90 ∧ movesN ss ≤ 90
variable {n : Int} {ss : List (List (List Int))}
end
end Go.Proofs.YtiiiegflobihjaaGreat

/- Two adversaries side by side in one: they have the same canonical form exactly if no word tells their first states apart. Plain lists. -/
namespace Go.Proofs.YtiiiegflobihjaaGreat

section
variable {xs ys : List (List (List Int))}
/-- Two small, well-formed adversaries of as many processes. -/
def TwoA (n : Int) (xs ys : List (List (List Int))) : Prop := ((∀ s ∈ xs, ∀ m ∈ s, m.length = 8) ∧ chkA n xs = 0) ∧ ((∀ s ∈ ys, ∀ m ∈ s, m.length = 8) ∧ chkA n ys = 0) ∧ xs.length + ys.length ≤ 90 ∧ movesN xs + movesN ys ≤ 90
variable {n : Int} (hW : TwoA n xs ys)
theorem SmA.cls {ss : List (List (List Int))} (h : SmA n ss) : ClsOK ss := clsOK_of h.1 h.2.1 h.2.2.1 h.2.2.2
theorem SmA.pos {ss : List (List (List Int))} (h : SmA n ss) : 0 < ss.length := h.cls.2.2.1
end
end Go.Proofs.YtiiiegflobihjaaGreat

/- Minimal adversaries and their proofs. Plain lists. -/
namespace Go.Proofs.YtiiiegflobihjaaGreat

/-- The words that lead to the states. -/
def wds (n : Nat) (fs : List (Nat × List Int)) : List (List (List Int)) := fs.foldl (fun W f => W.set (mvTo f.2) (W.getD f.1 [] ++ [rdOf f.2])) (List.replicate n [])
end Go.Proofs.YtiiiegflobihjaaGreat

/- canonical.Prove: the words of the search, and its second function. -/
namespace Go.Proofs.YtiiiegflobihjaaGreat
open Go.RowKit Go.ChangeMaps Go.MapKept

/-- A word in a cell. -/
def EWd (w : World) (cs : List Value) (x : List (List Int)) : Prop := ∃ u, cs = [u] ∧ OwX 51 7 EI w 0 u x.length x
theorem EWd.stab {E : TypeId} (h : 51 ≠ E) : Stab E EWd := fun _ _ _ _ ⟨u, h1, h2⟩ hx => ⟨u, h1, h2.other (EI.stab _) h hx⟩
theorem OwX.same {E : TypeId} {k : Nat} {w w' : World} {B n : Nat} {v : Value} {xs : List (List Int)} (h : OwX E k EI w B v n xs) (hk : ∀ g, v.ownBlock = some g → w'.heap[g]? = w.heap[g]?) : OwX E k EI w' B v n xs := by
  obtain ⟨vs, h1, h2, h3, h4⟩ := h
  refine ⟨vs, ⟨h1.1, ?_⟩, h2, h3, h4⟩
  rcases h1.2 with h' | ⟨g, cap, cur, k1, k2, k3, k4⟩
  · exact .inl h'
  · exact .inr ⟨g, cap, cur, k1, k2, (hk g (by rw [k1]; rfl)).trans k3, k4⟩
/-- What Prove asks of the words. -/
def JP (n bw gw : Nat) (fs : List (Nat × List Int)) (D : Nat → Prop) (W : World) : Prop :=
  D bw ∧ D gw ∧ bw ≠ gw ∧ W.heap[bw]? = some (.cells #[.slice (some ⟨gw, 0, none⟩) n n] 38) ∧
  (∃ cs, W.heap[gw]? = some (.cells cs 44) ∧ cs.size = n ∧ ∀ i, i < n → ∃ u, cs[i]? = some u ∧ OwX 51 7 EI W 0 u ((wds n fs).getD i []).length ((wds n fs).getD i []) ∧ ∀ k, u.ownBlock = some k → D k) ∧
  (0 :: fs.map fun f => mvTo f.2).Nodup ∧ ∀ x ∈ fs.map (fun f => mvTo f.2), x < n
theorem JP.len {n bw gw : Nat} {fs : List (Nat × List Int)} {D : Nat → Prop} {W : World} (h : JP n bw gw fs D W) : fs.length ≤ n := by
  obtain ⟨_, _, _, _, _, h1, h2⟩ := h
  have := nodup_lt_le (List.nodup_cons.1 h1).2 h2
  rwa [List.length_map] at this

end Go.Proofs.YtiiiegflobihjaaGreat

/- The chapter's examples. -/
namespace Go.Proofs.YtiiiegflobihjaaGreat
open Go.RowKit

/-- A row in a block of its own. -/
theorem KSC.row {k : Nat} {w : World} {b : Nat} {cs : Array Value} {t : TypeId} {xs : List (List Int)} (h : w.heap[b]? = some (.cells cs t)) (hl : ∀ x ∈ xs, x.length = k) (hc : cs.toList = xs.flatten.map (Value.int .i64)) (hn : xs.length ≤ 2199023255552) :
    KSC k w (.slice (some ⟨b, 0, none⟩) xs.length xs.length) xs := by
  refine ⟨_, _, b, 0, rfl, fun _ => rfl, fun j hj => ?_, hn, Nat.le_refl _⟩
  have hx : (xs.getD j []).length = k := hl _ (by rw [getD_eq hj]; exact List.getElem_mem hj)
  refine ⟨hx, fun i hi => ?_⟩
  have hi' : i < k := by omega
  have hf := flat_get hl (j := j) (x := xs.getD j []) (by rw [getD_eq hj]; exact List.getElem?_eq_some_iff.2 ⟨hj, rfl⟩)
  rw [cell_of_row _ _ _ _ _ _ h, ← Array.getElem?_toList, hc, List.getElem?_map, Nat.zero_add]
  have h2 : (xs.flatten)[j * k + i]? = some ((xs.getD j []).getD i 0) := by
    have h3 : ((xs.flatten.drop (j * k)).take k)[i]? = some ((xs.getD j []).getD i 0) := by
      rw [hf, List.getElem?_eq_getElem hi, getD_eq hi]
    rw [List.getElem?_take, if_pos hi', List.getElem?_drop] at h3
    exact h3
  rw [h2]; rfl
theorem ha_new {w : World} {o : Obj} {k : Nat} (h : k = w.heap.size) : (w.alloc o).heap[k]? = some o := by rw [h]; exact heap_alloc_new w o
theorem ha_old {w : World} {o o' : Obj} {k : Nat} (h : k < w.heap.size) (hk : w.heap[k]? = some o') : (w.alloc o).heap[k]? = some o' := (Below.heap_alloc w o k h).trans hk
end Go.Proofs.YtiiiegflobihjaaGreat

/- The reference: renumbered. -/
namespace Go.Proofs.YtiiiegflobihjaaGreat
open Go.RowKit

def ndK (x : Nd) : Nat := x.1.toNat
theorem kepR {a b c d e f g h i j k : Prop} (z : a ∧ b ∧ c ∧ d ∧ e ∧ f ∧ g ∧ h ∧ i ∧ j ∧ k) : a ∧ b ∧ c ∧ d ∧ e ∧ f ∧ g ∧ h ∧ i ∧ j ∧ k := z
theorem PL.val {ss : List (List (List Int))} {x : Nd} (h : PL ss x) : x = ((ndK x : Int), 0, []) := by
  obtain ⟨h1, h2, _⟩ := h
  exact Prod.ext (by show x.1 = ((x.1.toNat : Nat) : Int); omega) h1
theorem PL.k {ss : List (List (List Int))} {x : Nd} (h : PL ss x) : ndK x < ss.length := h.2.2

set_option maxRecDepth 100000 in
set_option maxHeartbeats 12800000 in
theorem refRenum {w : World} {n : Int} {ss S : List (List (List Int))} {live : List Bool} {aa : Option Addr} {ac lg lc B0 N : Nat} (hA : AdvV w (.agg #[.int .i64 n, .slice aa ss.length ac]) n ss) (wS : AdW ss) (h256 : ss.length ≤ 256) (h4096 : movesN ss ≤ 4096)
    (hN : N = ss.length) (hL : OB w B0 (.slice (some ⟨lg, 0, none⟩) N lc) N live) (hS : exG (lvSt ss live) 300 0 [nd0] [] = some (some S)) :
    Calls Tryz.prog 39 #[.agg #[.int .i64 n, .slice aa ss.length ac], .slice (some ⟨lg, 0, none⟩) N lc] w fun e w' => ∃ u, e = .returned u ∧ OwAdv w' u n S ∧ Below w.heap.size w w' := by
  obtain ⟨sv0, hsv, sa, sc, sb, so, rfl, hsa, hsc, hs0⟩ := hA
  injection hsv with hsv
  have hsv2 := congrArg (fun a => a.toList.getD 1 (.int .i64 0)) hsv
  obtain ⟨rfl, rfl⟩ : aa = sa ∧ ac = sc := by
    have h : Value.slice aa ss.length ac = Value.slice sa ss.length sc := hsv2
    injection h with h1 _ h3; exact ⟨h1, h3⟩
  have hpos := wS.pos
  obtain rfl := hsa (by omega)
  obtain ⟨W1, hW1⟩ : ∃ W1, W1 = (((w.alloc (.cells #[.int .i64 n, .slice (some ⟨sb, so, none⟩) ss.length ac] 24)).alloc (.cells #[.int .i64 0, .slice none 0 0] 24)).alloc (.cells #[.int .i64 0] 3)).alloc (.cells #[.int .i64 n, .slice none 0 0] 24) := ⟨_, rfl⟩
  have kA : W1.heap[w.heap.size]? = some (.cells #[.int .i64 n, .slice (some ⟨sb, so, none⟩) ss.length ac] 24) := by rw [hW1]; exact ha_old (by simp; omega) (ha_old (by simp; omega) (ha_old (by simp) (heap_alloc_new w _)))
  have kR : W1.heap[w.heap.size + 1]? = some (.cells #[.int .i64 0, .slice none 0 0] 24) := by rw [hW1]; exact ha_old (by first | (simp; done) | (simp; omega)) (ha_old (by first | (simp; done) | (simp; omega)) (ha_new (by simp)))
  have kF : W1.heap[w.heap.size + 1 + 1]? = some (.cells #[.int .i64 0] 3) := by rw [hW1]; first | exact ha_old (by simp) (ha_new (by simp)) | exact ha_old (by simp) (ha_new rfl)
  have kO : W1.heap[w.heap.size + 1 + 1 + 1]? = some (.cells #[.int .i64 n, .slice none 0 0] 24) := by rw [hW1]; exact ha_new (by simp)
  have hb1 : Below w.heap.size w W1 := by rw [hW1]; exact ((((Below.refl _ w).alloc (Nat.le_refl _) _).alloc (by simp) _).alloc (by simp; omega) _).alloc (by simp; omega) _
  have a0 : (((w.alloc (.cells #[.int .i64 n, .slice (some ⟨sb, so, none⟩) ss.length ac] 24)).alloc (.cells #[.int .i64 0, .slice none 0 0] 24)).alloc (.cells #[.int .i64 0] 3)).cell? ⟨w.heap.size, 0, none⟩ = some (.int .i64 n) := box_cell (j := 0) (ha_old (by simp; omega) (ha_old (by simp) (heap_alloc_new w _))) rfl
  have hfd : OI W1 w.heap.size (.slice (some ⟨w.heap.size + 1 + 1, 0, none⟩) 1 1) ([nd0] : List Nd).length (natI (([nd0] : List Nd).map ndK)) := ⟨rfl, .inr ⟨_, 1, _, rfl, by omega, kF, Nat.le_refl _, by unfold maxLen; omega, rfl, rfl⟩⟩
  have HM := Lib.hid (fun W (hb : Below w.heap.size w W) => And.intro (hsc.keep hb) (hL.keep hb))
  have hK0 : Hid (exG (lvSt ss live) 300 0 [nd0] [] = some (some S)) := hS
  have hP0 := PL.first wS
  have hz1 : W1.heap.size = w.heap.size + 1 + 1 + 1 + 1 := by rw [hW1]; simp
  replace hz1 := Lib.hid hz1
  replace hN := Lib.hid hN
  clear hsv hsv2 hsa hsc hL hS kF
  go_enter Tryz.func39, Tryz.ntmps39
  go_wp2_with fail
  rw [← hW1]
  replace hW1 := Lib.hid hW1
  clear a0
  go_loopg [5, 7] 300 (fun f fv iv wr => ∃ (i : Nat) (nodes : List Nd) (out : List (List (List Int))) (sv : Value), iv = .int .i64 i ∧ OI wr w.heap.size fv nodes.length (natI (nodes.map ndK)) ∧ wr.heap[w.heap.size + 1 + 1 + 1]? = some (.cells #[.int .i64 n, sv] 24) ∧
    OwX 59 1 ESt wr w.heap.size sv out.length out ∧ Below w.heap.size w wr ∧ wr.heap[w.heap.size]? = some (.cells #[.int .i64 n, .slice (some ⟨sb, so, none⟩) ss.length ac] 24) ∧ wr.heap[w.heap.size + 1]? = some (.cells #[.int .i64 0, .slice none 0 0] 24) ∧
    Hid (exG (lvSt ss live) f i nodes out = some (some S)) ∧ i ≤ nodes.length ∧ nodes.length ≤ 256 ∧ movesN out ≤ 4096 ∧ Hid (out.length = i) ∧ Hid ((∀ x ∈ nodes, PL ss x) ∧ nodes.Nodup))
  case atStart => exact ⟨0, [nd0], [], .slice none 0 0, rfl, hfd, kO, OwX.nil _ _, hb1, kA, kR, hK0, by simp, by simp, by simp [movesN], rfl, ⟨by intro x hx; rw [List.mem_singleton.1 hx]; exact hP0, by simp⟩⟩
  case round =>
    clear hK0 hfd kO hb1 kA kR
    obtain ⟨i, nodes, out, sv, rfl, hfo, kO, hst, hbw, kA, kR, hg, hi, hn256, hm4, hol, hPn⟩ := hrel
    obtain ⟨f, rfl⟩ : ∃ f, gk = f + 1 := by
      cases gk with
      | zero => exact absurd hg.out (by simp [exG])
      | succ f => exact ⟨f, rfl⟩
    have hol9 : out.length ≤ 256 := by rw [hol.out]; omega
    obtain ⟨sva, svc, hsv⟩ := hst.shape
    subst hsv
    obtain ⟨wm, hwm⟩ : ∃ wm, wm = wr := ⟨_, rfl⟩
    subst hwm
    by_cases hlt : i < nodes.length
    · obtain ⟨gf, cf, hfv, hgf⟩ := hfo.form (by omega)
      subst hfv
      obtain ⟨x, hxi⟩ : ∃ x, nodes[i]? = some x := ⟨_, List.getElem?_eq_getElem hlt⟩
      have hPx := hPn.out.1 x (List.mem_of_getElem? hxi)
      have hkS := hPx.k
      obtain ⟨hok, hstl⟩ := lvSt_ok wS live hPx
      have hst2 : lvSt ss live x = (ss.getD (ndK x) []).filterMap (lvF live) := rfl
      have hxl := (wS.st _ (List.getElem_mem hkS)).1
      have hxm := (wS.st _ (List.getElem_mem hkS)).2
      rw [← getD_eq hkS] at hxl hxm
      obtain ⟨k, hk⟩ : ∃ k, ndK x = k := ⟨_, rfl⟩
      rw [hk] at hkS hst2 hxl hxm
      obtain ⟨az, haz⟩ : ∃ az, lvSt ss live x = az := ⟨_, rfl⟩
      rw [haz] at hok hst2
      obtain ⟨RS, hRS⟩ : ∃ RS, ss.getD k [] = RS := ⟨_, rfl⟩
      rw [hRS] at hst2 hxl hxm
      have hii : (i : Int) < (nodes.length : Int) := by omega
      have hki : (k : Int) < (ss.length : Int) := by omega
      have hl0 : OwX 58 8 EI wm wm.heap.size (.slice none 0 0) 0 ((exL nodes az).take 0) := OwX.nil _ _
      have hX0 : KeepX 3 wm wm := KeepX.refl _ _
      have hF0 : Hid ((RS.take 0).filterMap (lvF live) = az.take 0) := rfl
      have hazl : az.length ≤ 4096 := by rw [hst2]; exact Nat.le_trans (List.length_filterMap_le _ _) hxl
      replace hst2 := Lib.hid hst2
      replace hxm := Lib.hid hxm
      replace haz := Lib.hid haz
      replace hRS := Lib.hid hRS
      replace hok := Lib.hid hok
      replace hk := Lib.hid hk
      replace hxi := Lib.hid hxi
      replace hPx := Lib.hid hPx
      go_wp2_with fail
      go_loopw [5, 8, 9] (fun fv lv jv wr => ∃ j c : Nat, jv = .int .i64 j ∧ j ≤ RS.length ∧ c ≤ az.length ∧ Hid ((RS.take j).filterMap (lvF live) = az.take c) ∧ OI wr w.heap.size fv (exN nodes (az.take c)).length (natI ((exN nodes (az.take c)).map ndK)) ∧
        OwX 58 8 EI wr wm.heap.size lv c ((exL nodes az).take c) ∧ KeepX 3 wm wr ∧ Below w.heap.size w wr ∧ wm.heap.size ≤ wr.heap.size) (fun _ _ jv _ => RS.length - (intOf jv).toNat)
      case atStart => exact ⟨0, 0, rfl, by omega, by omega, hF0, hfo, hl0, hX0, hbw, Nat.le_refl _⟩
      case round =>
        clear hl0 hX0 hF0
        obtain ⟨j, c, rfl, hj, hc, hF, hfr, hml, hX, hbr, hsz⟩ := hrel
        have kAr := hX.size kA (by decide)
        obtain ⟨a0, a1⟩ := box2 kAr
        obtain ⟨hcc, hLv⟩ := HM.out wr hbr
        obtain ⟨us, hus, hks⟩ := hcc k hkS
        rw [hRS.out] at hks
        obtain ⟨xa, xc, xb, xo, rfl, hxa, hxc, _⟩ := hks
        obtain ⟨FF, hFF⟩ : ∃ FF, exN nodes (az.take c) = FF := ⟨_, rfl⟩
        have hFi : FF[i]? = some x := by
          obtain ⟨tl, htl⟩ := dd_pre ((az.take c).map Prod.snd) nodes
          have htl : exN nodes (az.take c) = nodes ++ tl := htl
          rw [← hFF, htl, List.getElem?_append_left hlt]; exact hxi.out
        have hFl : i < FF.length := (List.getElem?_eq_some_iff.1 hFi).1
        have hFP : Hid (∀ z ∈ FF, PL ss z) := fun z hz => by
          rw [← hFF] at hz
          rcases exN_mem hz with hz | ⟨a, ha, rfl⟩
          · exact hPn.out.1 z hz
          · exact (hok.out a (List.mem_of_mem_take ha)).1
        have hFn : Hid (FF.Nodup) := by rw [← hFF]; exact exN_nodup hPn.out.2
        have hF256 : FF.length ≤ 256 := by
          obtain ⟨q1, q2⟩ := PL.keys hFn.out hFP.out
          have := nodup_len _ _ q1 q2
          rw [List.length_map] at this; omega
        have hgk : ∀ q (z : Nd), FF[q]? = some z → (natI (FF.map ndK)).getD q 0 = (ndK z : Int) := fun q z hz => by
          rw [natI, List.getD_eq_getElem?_getD, List.getElem?_map, List.getElem?_map, hz]; rfl
        rw [hFF] at hfr
        obtain ⟨gr, cr, hve, _⟩ := hfr.form (by omega)
        subst hve
        have cF := hfr.cell hFl
        rw [hgk i x hFi, hk.out] at cF
        have hiF : (i : Int) < (FF.length : Int) := by omega
        replace hgk := Lib.hid hgk
        by_cases hltj : j < RS.length
        · have hji : (j : Int) < (RS.length : Int) := by omega
          obtain rfl := hxa (by omega)
          obtain ⟨h8, hmc⟩ := hxc j hltj
          have hmm := hxm.out _ (by rw [getD_eq hltj]; exact List.getElem_mem hltj : RS.getD j [] ∈ RS)
          have hjm : RS[j]? = some (RS.getD j []) := by rw [getD_eq hltj]; exact List.getElem?_eq_getElem hltj
          obtain ⟨mv, hmv⟩ : ∃ m, RS.getD j [] = m := ⟨_, rfl⟩
          rw [hmv] at h8 hmc hmm hjm
          obtain ⟨m0, m1, m2, m3, m4, m5, m6, m7, rfl⟩ := eight h8
          obtain ⟨_, t7b, t7c⟩ := hmm
          have t7b : 0 ≤ m7 := t7b
          have t7c : m7 < (ss.length : Int) := t7c
          obtain ⟨t, rfl⟩ : ∃ t : Nat, m7 = (t : Int) := ⟨m7.toNat, by omega⟩
          have htS : t < ss.length := by omega
          have htN : t < N := by rw [hN.out]; exact htS
          have htNi : (t : Int) < (N : Int) := by omega
          obtain ⟨c0, c1, c2, c3, c4, c5, c6, c7⟩ := hmc.all8
          have hkp := Lib.hid (fun (W : World) (hb : Below wr.heap.size wr W) => show W.cell? ⟨w.heap.size, 1, none⟩ = some (.slice (some ⟨sb, so, none⟩) ss.length ac) ∧ W.cell? ⟨gr, i, none⟩ = some (.int .i64 (k : Int)) ∧ W.cell? ⟨sb, so + k, none⟩ = some (.slice (some ⟨xb, xo, none⟩) RS.length xc) ∧ W.cell? ⟨xb, xo + j * 8, none⟩ = some (.int .i64 m0) ∧ W.cell? ⟨xb, xo + j * 8 + 1, none⟩ = some (.int .i64 m1) ∧ W.cell? ⟨xb, xo + j * 8 + 2, none⟩ = some (.int .i64 m2) ∧ W.cell? ⟨xb, xo + j * 8 + 3, none⟩ = some (.int .i64 m3) ∧ W.cell? ⟨xb, xo + j * 8 + 4, none⟩ = some (.int .i64 m4) ∧ W.cell? ⟨xb, xo + j * 8 + 5, none⟩ = some (.int .i64 m5) ∧ W.cell? ⟨xb, xo + j * 8 + 6, none⟩ = some (.int .i64 m6) ∧ W.cell? ⟨xb, xo + j * 8 + 7, none⟩ = some (.int .i64 (t : Int)) from ⟨cell_kept hb a1, cell_kept hb cF, cell_kept hb hus, cell_kept hb c0, cell_kept hb c1, cell_kept hb c2, cell_kept hb c3, cell_kept hb c4, cell_kept hb c5, cell_kept hb c6, cell_kept hb c7⟩)
          replace hmv := Lib.hid hmv
          replace hFi := Lib.hid hFi
          replace hFF := Lib.hid hFF
          clear hcc hxc hmc h8 hxa
          go_wp2
          go_quiet (fail)
          go_wp2_with fail
          obtain ⟨wq, hwq⟩ : ∃ wq, wq = wr.drewN nq := ⟨_, rfl⟩
          have hbq : Below wr.heap.size wr wq := by rw [hwq]; exact (Qt.mk' wr nq).below
          rw [← hwq]
          replace hwq := Lib.hid hwq
          obtain ⟨a1', cF', hus', c0', c1', c2', c3', c4', c5', c6', c7'⟩ := hkp.out wq hbq
          have kd := hkp.out wq.drew hbq.drew
          have ke := fun o => hkp.out (wq.drew.alloc o) ((hbq.drew).alloc hbq.drew.size o)
          replace ke := Lib.hid ke
          clear a0 a1 cF hus c0 c1 c2 c3 c4 c5 c6 c7
          go_region_held3 (fun w' => w'.cell? ⟨w.heap.size, 1, none⟩ = some (.slice (some ⟨sb, so, none⟩) ss.length ac) ∧ w'.cell? ⟨gr, i, none⟩ = some (.int .i64 (k : Int)) ∧ w'.cell? ⟨sb, so + k, none⟩ = some (.slice (some ⟨xb, xo, none⟩) RS.length xc) ∧ w'.cell? ⟨xb, xo + j * 8, none⟩ = some (.int .i64 m0) ∧ w'.cell? ⟨xb, xo + j * 8 + 1, none⟩ = some (.int .i64 m1) ∧ w'.cell? ⟨xb, xo + j * 8 + 2, none⟩ = some (.int .i64 m2) ∧ w'.cell? ⟨xb, xo + j * 8 + 3, none⟩ = some (.int .i64 m3) ∧ w'.cell? ⟨xb, xo + j * 8 + 4, none⟩ = some (.int .i64 m4) ∧ w'.cell? ⟨xb, xo + j * 8 + 5, none⟩ = some (.int .i64 m5) ∧ w'.cell? ⟨xb, xo + j * 8 + 6, none⟩ = some (.int .i64 m6) ∧ w'.cell? ⟨xb, xo + j * 8 + 7, none⟩ = some (.int .i64 (t : Int)))
            (first
              | (exact kepR kd)
              | (exact kepR (ke.out _))
              | go_keep)
            (fail)
          obtain ⟨Wb, hWb⟩ : ∃ Wb, Wb = (wq.alloc (.cells #[.int .i64 m0, .int .i64 m1, .int .i64 m2, .int .i64 m3, .int .i64 m4, .int .i64 m5, .int .i64 m6, .int .i64 (t : Int)] 58)).drew := ⟨_, rfl⟩
          have hbb : Below wr.heap.size wr Wb := by rw [hWb]; exact ((hbq.alloc hbq.size _).drew)
          have kM : Wb.heap[wq.heap.size]? = some (.cells #[.int .i64 m0, .int .i64 m1, .int .i64 m2, .int .i64 m3, .int .i64 m4, .int .i64 m5, .int .i64 m6, .int .i64 (t : Int)] 58) := by rw [hWb]; exact heap_alloc_new wq _
          have hzq := hbq.size
          have hLb := (hLv.keep hbb).cell htN
          have hfrb := hfr.keep hbb
          have hmlb := hml.keep (EI.stab _) hbb
          have hXb := hX.trans (KeepX.below hbb)
          have hbrb := bt hbr hbb hbr.size
          have hszb := Nat.le_trans hsz hbb.size
          have d7 : Wb.cell? ⟨wq.heap.size, 7, none⟩ = some (.int .i64 (t : Int)) := box_cell (j := 7) kM rfl
          have hlf : lvF live [m0, m1, m2, m3, m4, m5, m6, (t : Int)] = if live.getD t false then some ([m0, m1, m2, m3, m4, m5, m6], ((t : Int), 0, [])) else none := by
            simp [lvF, mvTo, rdOf]
          rw [← hWb]
          replace hWb := Lib.hid hWb
          replace hzq := Lib.hid hzq
          obtain ⟨qb, hqb⟩ : ∃ q, live.getD t false = q := ⟨_, rfl⟩
          rw [hqb] at hLb hlf
          replace hqb := Lib.hid hqb
          have hF1 := hF.out
          rw [hst2.out] at hF1
          clear kd hfr hml hX hbr hsz hLv
          cases qb
          · have hF3 : Hid ((RS.take (j + 1)).filterMap (lvF live) = az.take c) := by show _ = _; rw [hst2.out]; exact fm_skip hjm hF1 (by rw [hlf]; rfl)
            clear hF1 hlf kM
            go_wp2
            go_roundw
            case rel => exact ⟨j + 1, c, by go_num, hltj, hc, hF3, by rw [hFF.out]; exact hfrb, hmlb, hXb, hbrb, hszb⟩
            case measure => simp [intOf]; omega
          · have hcl : c ≤ (RS.filterMap (lvF live)).length := by rw [← hst2.out]; exact hc
            obtain ⟨hazc, hF3⟩ := fm_at hjm hF1 hcl (by rw [hlf]; rfl)
            rw [← hst2.out] at hazc hF3
            have hc1 : c + 1 ≤ az.length := (List.getElem?_eq_some_iff.1 hazc).1
            have hn0 : Hid (∀ q, q < 0 → FF[q]? ≠ some ((t : Int), 0, [])) := fun q hq => absurd hq (by omega)
            replace hazc := Lib.hid hazc
            replace hF3 := Lib.hid hF3
            clear hF1 hlf hcl
            have hkk := Lib.hid (fun W (hb : Below Wb.heap.size Wb W) => And.intro (kept hb kM) (And.intro (fun q (hq : q < FF.length) => (hfrb.keep hb).cell hq) (And.intro (hfrb.keep hb) (hmlb.keep (EI.stab _) hb))))
            go_wp2_with fail
            clear d7 hLb
            go_loopw [11] (fun pv wx => ∃ p : Nat, pv = .int .i64 p ∧ p ≤ FF.length ∧ Hid (∀ q, q < p → FF[q]? ≠ some ((t : Int), 0, [])) ∧ Below Wb.heap.size Wb wx) (fun pv _ => FF.length - (intOf pv).toNat)
            case atStart => exact ⟨0, rfl, by omega, hn0, Below.refl _ _⟩
            case round =>
              clear hn0
              obtain ⟨p, rfl, hp, hnp, hbp⟩ := hrel
              obtain ⟨wp, hwp⟩ : ∃ wp, wp = wr := ⟨_, rfl⟩
              subst hwp
              obtain ⟨kMp, hcp, hfp, hmp⟩ := hkk.out wp hbp
              have d7 : wp.cell? ⟨wq.heap.size, 7, none⟩ = some (.int .i64 (t : Int)) := box_cell (j := 7) kMp rfl
              by_cases hpl : p < FF.length
              · have hpi : (p : Int) < (FF.length : Int) := by omega
                obtain ⟨z, hz⟩ : ∃ z, FF[p]? = some z := ⟨_, List.getElem?_eq_getElem hpl⟩
                have hPz := hFP.out z (List.mem_of_getElem? hz)
                have cz := hcp p hpl
                rw [hgk.out p z hz] at cz
                have hzv := hPz.val
                obtain ⟨kz, hkz⟩ : ∃ kz, ndK z = kz := ⟨_, rfl⟩
                rw [hkz] at cz hzv
                have hd1 : decide ((p : Int) < (FF.length : Int)) = true := decide_eq_true hpi
                replace hkz := Lib.hid hkz
                clear hcp hPz
                by_cases hzt : kz = t
                · subst hzt
                  have hd2 : ((kz : Int) != (kz : Int)) = false := by simp
                  rw [hzv] at hz
                  have hmem : ((kz : Int), 0, []) ∈ FF := List.mem_of_getElem? hz
                  have hix := ixOf_at hnp.out hz
                  have hnn := exN_in' hazc.out (by rw [hFF.out]; exact hmem)
                  have hll := exL_in' hazc.out (by rw [hFF.out]; exact hmem)
                  rw [hFF.out] at hll hnn
                  have hll : (exL nodes az).take (c + 1) = (exL nodes az).take c ++ [[m0, m1, m2, m3, m4, m5, m6, (p : Int)]] := by rw [hll]; show _ ++ [[m0, m1, m2, m3, m4, m5, m6] ++ [((ixOf FF ((kz : Int), 0, []) : Nat) : Int)]] = _; rw [hix]; rfl
                  have hde : ((p : Int) == (FF.length : Int)) = false := by
                    rw [beq_eq_false_iff_ne]; omega
                  have hEM : ∀ W, EI W [.int .i64 m0, .int .i64 m1, .int .i64 m2, .int .i64 m3, .int .i64 m4, .int .i64 m5, .int .i64 m6, .int .i64 (p : Int)] [m0, m1, m2, m3, m4, m5, m6, (p : Int)] := fun _ => rfl
                  have hc8 : ∀ u ∈ (#[.int .i64 m0, .int .i64 m1, .int .i64 m2, .int .i64 m3, .int .i64 m4, .int .i64 m5, .int .i64 m6, .int .i64 (p : Int)] : Array Value).toList, u.oneCell' = true := fun u hu => by
                    simp only [List.mem_cons, List.not_mem_nil, or_false] at hu
                    rcases hu with rfl | rfl | rfl | rfl | rfl | rfl | rfl | rfl <;> rfl
                  replace hEM := Lib.hid hEM
                  replace hc8 := Lib.hid hc8
                  obtain ⟨_, e0, e1, e2, e3, e4, e5, e6⟩ : True ∧ wp.cell? ⟨wq.heap.size, 0, none⟩ = some (.int .i64 m0) ∧ wp.cell? ⟨wq.heap.size, 1, none⟩ = some (.int .i64 m1) ∧ wp.cell? ⟨wq.heap.size, 2, none⟩ = some (.int .i64 m2) ∧ wp.cell? ⟨wq.heap.size, 3, none⟩ = some (.int .i64 m3) ∧ wp.cell? ⟨wq.heap.size, 4, none⟩ = some (.int .i64 m4) ∧ wp.cell? ⟨wq.heap.size, 5, none⟩ = some (.int .i64 m5) ∧ wp.cell? ⟨wq.heap.size, 6, none⟩ = some (.int .i64 m6) := ⟨trivial, box_cell (j := 0) kMp rfl, box_cell (j := 1) kMp rfl, box_cell (j := 2) kMp rfl, box_cell (j := 3) kMp rfl, box_cell (j := 4) kMp rfl, box_cell (j := 5) kMp rfl, box_cell (j := 6) kMp rfl⟩
                  have hmq := Lib.hid (fun nd => hmp.keep (EI.stab _) (Qt.mk' wp nd).below)
                  have hfq := Lib.hid (fun nd => hfp.keep (Qt.mk' wp nd).below)
                  have hbpq := Lib.hid (fun nd => bt hbp (Qt.mk' wp nd).below hbp.size)
                  have hc9 : c ≤ 1000000000000 := by omega
                  have hBq := Lib.hid (fun nd => show wm.heap.size ≤ (wp.drewN nd).heap.size from Nat.le_trans hszb hbp.size)
                  obtain ⟨la, lc', hlv⟩ := hmp.shape
                  subst hlv
                  replace hnn := Lib.hid hnn
                  replace hll := Lib.hid hll
                  replace hix := Lib.hid hix
                  replace hmem := Lib.hid hmem
                  replace hzv := Lib.hid hzv
                  replace hz := Lib.hid hz
                  clear hnp
                  go_wp2
                  go_quiet (fail)
                  go_wp2_with (at_builtin; refine wpAppX (x := [m0, m1, m2, m3, m4, m5, m6, (p : Int)]) elemMv (by decide) (by decide) (EI.stab _) rfl _ _ rfl rfl (hmq.out _) rfl rfl rfl hc8.out (hEM.out _) hc9 (hBq.out _) ?_)
                  intro v8 w8 ho8 hg8 hb8 hx8
                  have hb8q := hbpq.out nq
                  have hf8 := (hfq.out nq).other (E := 58) (by decide) hx8
                  have hX8 := (hXb.trans (KeepX.below hb8q)).behind hb8
                  have hbr8 := (bt hbrb hb8q hbrb.size).trans (hb8.mono hbw.size)
                  have hsz8 := Nat.le_trans hszb (Nat.le_trans hb8q.size (show (wp.drewN nq).heap.size ≤ w8.heap.size from hg8.size))
                  rw [← hll.out] at ho8
                  clear hmp hfp kMp
                  go_wp2
                  go_roundw
                  case rel => exact ⟨j + 1, c + 1, by go_num, hltj, hc1, hF3, by rw [hnn.out]; exact hf8, ho8, hX8, hbr8, hsz8⟩
                  case measure => simp [intOf]; omega
                · have hd2 : ((kz : Int) != (t : Int)) = true := by simp; omega
                  have hnp2 : Hid (∀ q, q < p + 1 → FF[q]? ≠ some ((t : Int), 0, [])) := fun q hq h => by
                    rcases Nat.eq_or_lt_of_le (Nat.le_of_lt_succ hq) with h1 | h1
                    · subst h1
                      rw [hz] at h
                      injection h with h
                      rw [hzv] at h
                      injection h with h _
                      omega
                    · exact hnp.out q h1 h
                  replace hzt := Lib.hid hzt
                  replace hzv := Lib.hid hzv
                  replace hz := Lib.hid hz
                  clear hnp
                  have hbpq := Lib.hid (fun nd => hbp.trans ((Qt.mk' wp nd).belowB _))
                  go_wp2
                  go_quiet (fail)
                  go_wp2
                  go_roundw
                  case rel => exact ⟨p + 1, by go_num, hpl, hnp2, hbpq.out _⟩
                  case measure => simp [intOf]; omega
              · obtain rfl : p = FF.length := by omega
                have hd1 : decide ((FF.length : Int) < (FF.length : Int)) = false := decide_eq_false (by omega)
                have hde : ((FF.length : Int) == (FF.length : Int)) = true := by simp
                have hnm : ((t : Int), 0, []) ∉ FF := fun h => by
                  obtain ⟨q, hq, he⟩ := List.mem_iff_getElem.1 h
                  exact hnp.out q hq (by rw [List.getElem?_eq_getElem hq, he])
                have hnn := exN_out' hazc.out (by rw [hFF.out]; exact hnm)
                have hll := exL_out' hazc.out (by rw [hFF.out]; exact hnm)
                rw [hFF.out] at hll hnn
                have hll : (exL nodes az).take (c + 1) = (exL nodes az).take c ++ [[m0, m1, m2, m3, m4, m5, m6, (FF.length : Int)]] := hll
                have hnk : natI ((FF ++ [((t : Int), 0, [])]).map ndK) = natI (FF.map ndK) ++ [(t : Int)] := by
                  rw [List.map_append, natI, natI, List.map_append]; rfl
                have hmq := Lib.hid (fun nd => hmp.keep (EI.stab _) (Qt.mk' wp nd).below)
                have hfq := Lib.hid (fun nd => hfp.keep (Qt.mk' wp nd).below)
                have hbpq := Lib.hid (fun nd => bt hbp (Qt.mk' wp nd).below hbp.size)
                have hkMq := Lib.hid (fun nd => kept (Qt.mk' wp nd).below kMp)
                have hc9 : c ≤ 1000000000000 := by omega
                have hF9 : FF.length ≤ 1000000000000 := by omega
                have hBq := Lib.hid (fun nd => show wm.heap.size ≤ (wp.drewN nd).heap.size from Nat.le_trans hszb hbp.size)
                have hBw := Lib.hid (fun nd => show w.heap.size ≤ (wp.drewN nd).heap.size from Nat.le_trans hbw.size (hBq.out nd))
                obtain ⟨la, lc', hlv⟩ := hmp.shape
                subst hlv
                replace hnn := Lib.hid hnn
                replace hll := Lib.hid hll
                replace hnk := Lib.hid hnk
                replace hnm := Lib.hid hnm
                clear hnp hpl
                go_wp2
                go_quiet (fail)
                go_wp2_with (at_builtin; refine wpAppI (y := (t : Int)) rfl _ _ rfl rfl (hfq.out _) rfl hF9 (hBw.out _) ?_)
                intro v7 w7 ho7 hg7 hb7
                have hb7q := hbpq.out nq
                have hX7 : KeepX 3 (wp.drewN nq) w7 := KeepX.own (hfq.out nq) hg7
                have hm7 := (hmq.out nq).other (E' := 3) (EI.stab _) (by decide) hX7
                have kM7 := hX7.size (hkMq.out nq) (by decide)
                have hXt := (hXb.trans (KeepX.below hb7q)).trans hX7
                have hbr7 := (bt hbrb hb7q hbrb.size).trans hb7
                have hsz7 : wm.heap.size ≤ w7.heap.size := Nat.le_trans (hBq.out nq) hg7.size
                have hEM : ∀ W, EI W [.int .i64 m0, .int .i64 m1, .int .i64 m2, .int .i64 m3, .int .i64 m4, .int .i64 m5, .int .i64 m6, .int .i64 (FF.length : Int)] [m0, m1, m2, m3, m4, m5, m6, (FF.length : Int)] := fun _ => rfl
                have hc8 : ∀ u ∈ (#[.int .i64 m0, .int .i64 m1, .int .i64 m2, .int .i64 m3, .int .i64 m4, .int .i64 m5, .int .i64 m6, .int .i64 (FF.length : Int)] : Array Value).toList, u.oneCell' = true := fun u hu => by
                  simp only [List.mem_cons, List.not_mem_nil, or_false] at hu
                  rcases hu with rfl | rfl | rfl | rfl | rfl | rfl | rfl | rfl <;> rfl
                replace hEM := Lib.hid hEM
                replace hc8 := Lib.hid hc8
                obtain ⟨_, e0, e1, e2, e3, e4, e5, e6⟩ : True ∧ w7.cell? ⟨wq.heap.size, 0, none⟩ = some (.int .i64 m0) ∧ w7.cell? ⟨wq.heap.size, 1, none⟩ = some (.int .i64 m1) ∧ w7.cell? ⟨wq.heap.size, 2, none⟩ = some (.int .i64 m2) ∧ w7.cell? ⟨wq.heap.size, 3, none⟩ = some (.int .i64 m3) ∧ w7.cell? ⟨wq.heap.size, 4, none⟩ = some (.int .i64 m4) ∧ w7.cell? ⟨wq.heap.size, 5, none⟩ = some (.int .i64 m5) ∧ w7.cell? ⟨wq.heap.size, 6, none⟩ = some (.int .i64 m6) := ⟨trivial, box_cell (j := 0) kM7 rfl, box_cell (j := 1) kM7 rfl, box_cell (j := 2) kM7 rfl, box_cell (j := 3) kM7 rfl, box_cell (j := 4) kM7 rfl, box_cell (j := 5) kM7 rfl, box_cell (j := 6) kM7 rfl⟩
                rw [← hnk.out] at ho7
                have ho7 : OI w7 w.heap.size v7 (FF ++ [((t : Int), 0, [])]).length (natI ((FF ++ [((t : Int), 0, [])]).map ndK)) := by rw [List.length_append]; exact ho7
                clear hmp hfp kMp kM7
                obtain ⟨NN, hNN⟩ : ∃ NN, FF ++ [((t : Int), 0, [])] = NN := ⟨_, rfl⟩
                rw [hNN] at ho7 hnn
                replace hNN := Lib.hid hNN
                replace ho7 := Lib.hid ho7
                go_wp2_with (at_builtin; refine wpAppX (x := [m0, m1, m2, m3, m4, m5, m6, (FF.length : Int)]) elemMv (by decide) (by decide) (EI.stab _) rfl _ _ rfl rfl hm7 rfl rfl rfl hc8.out (hEM.out _) hc9 hsz7 ?_)
                intro v8 w8 ho8 hg8 hb8 hx8
                have hf8 := ho7.out.other (E := 58) (by decide) hx8
                have hX8 := hXt.behind hb8
                have hbr8 := hbr7.trans (hb8.mono hbw.size)
                have hsz8 := Nat.le_trans hsz7 hg8.size
                rw [← hll.out] at ho8
                go_wp2
                go_roundw
                case rel => exact ⟨j + 1, c + 1, by go_num, hltj, hc1, hF3, by rw [hnn.out]; exact hf8, ho8, hX8, hbr8, hsz8⟩
                case measure => simp [intOf]; omega
        · obtain rfl : j = RS.length := by omega
          have hge : ¬ ((RS.length : Int) < (RS.length : Int)) := by omega
          have hF2 := hF.out
          rw [List.take_length, ← hst2.out] at hF2
          obtain rfl : c = az.length := by
            have h := congrArg List.length hF2
            rw [List.length_take] at h; omega
          have hell : (exL nodes az).length = az.length := exL_length
          have hlt2 : (exL nodes az).take az.length = exL nodes az := by rw [← hell, List.take_length]
          have hlt3 : exN nodes (az.take az.length) = exN nodes az := exN_all
          rw [hlt2] at hml
          have hFF2 : exN nodes az = FF := by rw [← hlt3]; exact hFF
          obtain ⟨la, lc', hlv⟩ := hml.shape
          subst hlv
          have kOr := hX.size kO (by decide)
          have kRr := hX.size kR (by decide)
          have hst' := hst.other (E' := 3) (ESt.stab (by decide)) (by decide) hX
          have hES : ESt wr [.slice la az.length lc'] (exL nodes az) := ⟨_, rfl, by rw [hell]; exact hml.base (Nat.zero_le _)⟩
          have hbig : ¬ (256 < (exN nodes (lvSt ss live x)).length ∨ 4096 < movesN (out ++ [exL nodes (lvSt ss live x)])) := fun hb => by
            have h := exG_big (step := lvSt ss live) (f := f) (out := out) hxi.out hb
            have h2 := hg.out
            rw [h] at h2
            injection h2 with h2
            cases h2
          have hg3 : exG (lvSt ss live) f (i + 1) (exN nodes az) (out ++ [exL nodes az]) = some (some S) := by
            have h := exG_step (step := lvSt ss live) (f := f) (out := out) hxi.out hbig
            rw [haz.out] at h
            rw [← h]; exact hg.out
          rw [haz.out] at hbig
          have hm3 : movesN (out ++ [exL nodes az]) ≤ 4096 := by omega
          have hN3 : (exN nodes az).length ≤ 256 := by omega
          have hNg : nodes.length ≤ (exN nodes az).length := exN_ge
          have hi3 : i + 1 ≤ FF.length := by rw [← hFF2]; omega
          rw [hFF2] at hg3 hN3
          obtain ⟨l, hl⟩ : ∃ l, exL nodes az = l := ⟨_, rfl⟩
          rw [hl] at hml hES hg3 hm3
          have hc1 : ∀ u ∈ (#[.slice la az.length lc'] : Array Value).toList, u.oneCell' = true := fun u hu => by
            rw [List.mem_singleton.1 hu]; rfl
          have hn9 : out.length ≤ 1000000000000 := by omega
          have d1 := box_cell (j := 1) kOr rfl
          have hB9 : w.heap.size ≤ wr.heap.size := hbr.size
          have hfh := Lib.hid hfr
          replace hc1 := Lib.hid hc1
          replace hES := Lib.hid hES
          replace hell := Lib.hid hell
          replace hl := Lib.hid hl
          replace hg3 := Lib.hid hg3
          replace hm3 := Lib.hid hm3
          replace hlt2 := Lib.hid hlt2
          replace hlt3 := Lib.hid hlt3
          replace hFF2 := Lib.hid hFF2
          replace hbig := Lib.hid hbig
          clear hF2 hF hcc hxc hxa hml hg
          have hstq := Lib.hid (fun nd => hst'.keep (ESt.stab (by decide)) (Qt.mk' wr nd).below)
          have hESq := Lib.hid (fun nd => (ESt.stab (E := 24) (by decide)) wr (wr.drewN nd) _ _ hES.out (KeepX.below (Qt.mk' wr nd).below))
          have hBq := Lib.hid (fun nd => show w.heap.size ≤ (wr.drewN nd).heap.size from hB9)
          have hbrq := Lib.hid (fun nd => bt hbr (Qt.mk' wr nd).below hbr.size)
          have hkq := Lib.hid (fun nd => And.intro (kept (Qt.mk' wr nd).below kAr) (And.intro (kept (Qt.mk' wr nd).below kOr) (And.intro (kept (Qt.mk' wr nd).below kRr) (hfh.out.keep (Qt.mk' wr nd).below))))
          clear hst' kAr kOr kRr
          go_wp2
          go_quiet (fail)
          go_wp2_with (at_builtin; refine wpAppX (x := l) elemSt (by decide) (by decide) (ESt.stab (by decide)) rfl _ _ rfl rfl (hstq.out _) rfl rfl rfl hc1.out (hESq.out _) hn9 (hBq.out _) ?_)
          intro sv2 w2 hst2' hg2 hb2 hx2
          obtain ⟨v2a, v2c, hsv2⟩ := hst2'.shape
          subst hsv2
          obtain ⟨kAq, kOq, kRq, hfq⟩ := hkq.out nq
          have kA2 := hx2.size kAq (by decide)
          have kO2 := hx2.size kOq (by decide)
          have kR2 := hx2.size kRq (by decide)
          have hf2 := hfq.other (E := 59) (by decide) hx2
          have hbr2 := (hbrq.out nq).trans hb2
          obtain ⟨e0, e1⟩ := box2 kO2
          have ef1 := row_free kO2 1
          obtain ⟨w3, hw3⟩ : ∃ w3, w3 = w2.setCell ⟨w.heap.size + 1 + 1 + 1, 1, none⟩ (.slice v2a (out.length + 1) v2c) := ⟨_, rfl⟩
          have kO3 : w3.heap[w.heap.size + 1 + 1 + 1]? = some (.cells #[.int .i64 n, .slice v2a (out.length + 1) v2c] 24) := by rw [hw3]; exact two_setCell kO2
          have hX3 : KeepX 24 w2 w3 := by rw [hw3]; exact KeepX.setCell (p := ⟨w.heap.size + 1 + 1 + 1, 1, none⟩) kO2 _
          have hst3 := hst2'.other (E' := 24) (ESt.stab (by decide)) (by decide) hX3
          have hf3 := hf2.other (E := 24) (by decide) hX3
          have kA3 : w3.heap[w.heap.size]? = some (.cells #[.int .i64 n, .slice (some ⟨sb, so, none⟩) ss.length ac] 24) := by rw [hw3]; exact (Below.heap_setCell _ _ _ _ (by show w.heap.size ≠ w.heap.size + 1 + 1 + 1; omega)).trans kA2
          have kR3 : w3.heap[w.heap.size + 1]? = some (.cells #[.int .i64 0, .slice none 0 0] 24) := by rw [hw3]; exact (Below.heap_setCell _ _ _ _ (by show w.heap.size + 1 ≠ w.heap.size + 1 + 1 + 1; omega)).trans kR2
          have hbr3 : Below w.heap.size w w3 := by rw [hw3]; exact Below.setCell (p := ⟨w.heap.size + 1 + 1 + 1, 1, none⟩) hbr2 (by show w.heap.size ≤ w.heap.size + 1 + 1 + 1; omega) _
          have hol3 : (out ++ [l]).length = i + 1 := by rw [List.length_append, hol.out]; rfl
          replace hol3 := Lib.hid hol3
          have hPn3 : Hid ((∀ z ∈ FF, PL ss z) ∧ FF.Nodup) := ⟨hFP.out, hFn.out⟩
          clear kA2 kO2 kR2 hf2 kAq kOq kRq hfq hx2 hb2
          go_wp2
          rw [← hw3]
          replace hw3 := Lib.hid hw3
          go_roundg f
          case measure => omega
          case rel => exact ⟨i + 1, FF, out ++ [l], .slice v2a (out.length + 1) v2c, by go_num, hf3, kO3, by rw [List.length_append]; exact hst3, hbr3, kA3, kR3, hg3, hi3, hN3, hm3.out, hol3, hPn3⟩
    · have hSs : S = out := by
        have h := exG_end (step := lvSt ss live) (f := f) (out := out) hlt
        have h2 := hg.out
        rw [h] at h2
        injection h2 with h2
        injection h2 with h2
        exact h2.symm
      obtain rfl : i = nodes.length := by omega
      obtain ⟨na, nc, hnv⟩ := hfo.shape
      subst hnv
      have hge : ¬ ((nodes.length : Int) < (nodes.length : Int)) := by omega
      obtain ⟨d0, d1⟩ := box2 kO
      obtain ⟨y0, y1⟩ := box2 kR
      have yf := row_free kR
      have hr1 := heap_setCell_same wm (w.heap.size + 1) 0 _ _ (.int .i64 n) kR
      have hr2 := two_setCell (u := .slice sva out.length svc) hr1
      have hx2 := (KeepX.setCell (p := ⟨w.heap.size + 1, 0, none⟩) kR (.int .i64 n)).trans (KeepX.setCell (p := ⟨w.heap.size + 1, 1, none⟩) hr1 (.slice sva out.length svc))
      have hbe := (hbw.setCell (p := ⟨w.heap.size + 1, 0, none⟩) (by show w.heap.size ≤ w.heap.size + 1; omega) (.int .i64 n)).setCell (p := ⟨w.heap.size + 1, 1, none⟩) (by show w.heap.size ≤ w.heap.size + 1; omega) (.slice sva out.length svc)
      obtain ⟨z0, z1⟩ := box2 hr2
      have hfin : OwAdv ((wm.setCell ⟨w.heap.size + 1, 0, none⟩ (.int .i64 n)).setCell ⟨w.heap.size + 1, 1, none⟩ (.slice sva out.length svc)) (.agg #[.int .i64 n, .slice sva out.length svc]) n out :=
        ⟨_, rfl, (hst.other (E' := 24) (ESt.stab (by decide)) (by decide) hx2).base (Nat.zero_le _), by omega, fun x hx => by have := mem_movesN hx; omega⟩
      replace hfin := Lib.hid hfin
      replace hSs := Lib.hid hSs
      clear hr1 hr2 hx2 hst hfo kO kA
      go_wp2
      obtain ⟨W8, hW8⟩ : ∃ W8, W8 = (wm.setCell ⟨w.heap.size + 1, 0, none⟩ (.int .i64 n)).setCell ⟨w.heap.size + 1, 1, none⟩ (.slice sva out.length svc) := ⟨_, rfl⟩
      rw [← hW8] at z0 z1 hfin hbe ⊢
      clear hW8
      refine bodyPost_ret (v := .agg #[.int .i64 n, .slice sva out.length svc]) (by simp [results, Tryz.results39, go_sem, z0, z1]) rfl ?_
      exact ⟨_, rfl, by rw [hSs.out]; exact hfin.out, hbe⟩
end Go.Proofs.YtiiiegflobihjaaGreat

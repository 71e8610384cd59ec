/- slices.SortFunc over rows of ints, by slices.Compare. -/
import Derived.Test.YtpjlaaldepfnkaaDoorPd
import Derived.Test.YtpjlaaldepfnkaaDoorSh
namespace Go.Proofs.YtpjlaaldepfnkaaDoor
open Go.Shelf Go.RowKit Go.Lib Go.Sort

/-- The elements: row values and what they hold, apart from the block that is sorted. -/
def Elt (w : World) (blk : Nat) : Type := { p : Value × List Int // OI w 0 p.1 p.2.length p.2 ∧ p.2.length ≤ 17592186044416 ∧ ∀ g, p.1.ownBlock = some g → g ≠ blk }
def Elt.enc {w : World} {blk : Nat} (x : Elt w blk) : Value := x.1.1
def Elt.cf {w : World} {blk : Nat} (x y : Elt w blk) : Int := cmpL x.1.2 y.1.2

theorem Elt.one {w : World} {blk : Nat} : OneCell (Elt.enc (w := w) (blk := blk)) := fun x => oneCell_slice x.2.1
theorem Elt.swo {w : World} {blk : Nat} : SWO (ltOf (Elt.cf (w := w) (blk := blk))) where
  irrefl x := decide_eq_false fun h => cmpL_asymm _ _ h h
  trans x y z h1 h2 := decide_eq_true (cmpL_trans _ _ _ (of_decide_eq_true h1) (of_decide_eq_true h2))
  ntrans x y z h1 h2 := decide_eq_false (cmpL_ntrans _ _ _ (of_decide_eq_false h1) (of_decide_eq_false h2))
theorem heap_sortWorld_other {α : Type} [Inhabited α] {enc : α → Value} {w : World} {blk k : Nat} (off n : Nat) (d : Array α) (os : Array Obj) (hne : k ≠ blk) (hk : k < w.heap.size) : (sortWorld enc w blk off n d os).heap[k]? = w.heap[k]? := by
  simp only [sortWorld, grow, putRow, mapBlock, Sort.ahead]
  rw [Array.getElem?_append_left (by simpa using hk), Array.getElem?_modify, if_neg (fun h => hne h.symm)]
theorem heap_sortWorld_same {α : Type} [Inhabited α] {enc : α → Value} {w : World} {blk : Nat} (off n : Nat) (d : Array α) (os : Array Obj) {cs : Array Value} {t : TypeId} {fz : Nat × Nat} (h : w.heap[blk]? = some (.cells cs t fz)) : (sortWorld enc w blk off n d os).heap[blk]? = some (.cells (putCells enc off d cs) t fz) := by
  simp only [sortWorld, grow, putRow, mapBlock, Sort.ahead]
  rw [Array.getElem?_append_left (by simpa using (Array.getElem?_eq_some_iff.1 h).1), Array.getElem?_modify, if_pos rfl, h]
  rfl
theorem Elt.reads {w : World} {blk off size : Nat} [Inhabited (Elt w blk)] : CmpReads Tryd.prog 37 #[] (Elt.enc (w := w) (blk := blk)) Elt.cf blk off size w := by
  intro m os dk hs x y
  have key : ∀ z : Elt w blk, Ints (sortWorld Elt.enc w blk off m dk os) z.1.1 z.1.2 := by
    rintro ⟨⟨v, l⟩, hO, hl, hz⟩
    simp only at hO hl hz
    have hI := hO.ints hl
    rcases hO.2 with ⟨rfl, h0⟩ | ⟨g, cap, cur, rfl, _, h3, _⟩
    · have : l = [] := List.length_eq_zero_iff.1 h0
      subst this
      exact Ints.nil _ _ _
    · obtain ⟨a, c, b, o, he, ha, hc, hl⟩ := hI
      refine ⟨a, c, b, o, he, ha, fun j hj => ?_, hl⟩
      obtain rfl := ha (by simp only at hj; omega)
      injection he with he
      injection he with he
      injection he with he1 he2
      subst he1
      rw [World.cell?_of_block (w := w) (heap_sortWorld_other _ _ _ _ (hz g rfl) ((Array.getElem?_eq_some_iff.1 h3).1))]
      exact hc j hj
  exact (slCompare (key x) (key y)).mono fun _ _ ⟨he, q, hq⟩ => ⟨he, q, hq⟩
theorem sortRows {w : World} (blk off cap : Nat) [Inhabited (Elt w blk)] (d : Array (Elt w blk)) (hH : Holds Elt.enc w blk off d) (hblk : blk < w.heap.size) (hsz : d.size < 4611686018427387904) :
    Calls Tryd.prog 59 #[.slice (some ⟨blk, off, none⟩) d.size cap, .func (.func 37) #[] #[]] w fun e w' => e = .returned (.tuple #[]) ∧ ∃ d' n os, PermIn 0 d.size d d' ∧ SortedIn (ltOf Elt.cf) 0 d.size d' ∧ w' = sortWorld Elt.enc w blk off n d' os :=
  Any.slices_SortFunc Tryd.sortII Elt.enc Elt.one Elt.cf Elt.swo 37 #[] blk off cap d w (enters_of Tryd.func37 (by kernel_rfl) rfl) Elt.reads.lays hH hblk hsz

/-- The world behind the sort. -/
theorem below_sortWorld {α : Type} [Inhabited α] {enc : α → Value} {w : World} {blk : Nat} (n : Nat) (d : Array α) (os : Array Obj) {B : Nat} (hB : B ≤ blk) (hb : blk < w.heap.size) : Below B w (sortWorld enc w blk 0 n d os) := by
  refine ⟨rfl, rfl, rfl, ?_, fun k hk => heap_sortWorld_other _ _ _ _ (by omega) (by omega)⟩
  simp [sortWorld, grow, putRow, mapBlock, Sort.ahead]
end Go.Proofs.YtpjlaaldepfnkaaDoor

/- Texts of this claim, put together: RQ G2 AP CD G3 G5. -/
import Derived.Test.YtiiiegflobihjaaGreatKAWb
import Derived.Lib.Builder
import Derived.Lib.AppendStr
import Derived.Lib.UnsafeStr
import Derived.Lib.Strings
import Derived.Lib.Slices
import Derived.Lib.Walk
import Derived.Laws.Externs
import Derived.Laws.IdiomCopy
import Derived.Shelf.Strings.Builder1
import Derived.Test.YtiiiegflobihjaaGreatKAWf
import Derived.Test.YtiiiegflobihjaaGreatKAWj
import Derived.Test.YtiiiegflobihjaaGreatKAWh
import Derived.Deep.RegionHeld3
import Derived.Deep.DeepCutAuto
import Derived.Deep.AppendLies
import Derived.Maps.AppendAt
import Derived.Test.YtiiiegflobihjaaGreatKAWa

/- Regions that draw their order, whose calls make new memory: a class of worlds in place of draws. -/
namespace Go.Proofs.YtiiiegflobihjaaGreat
open Go.RowKit

/-- All operations read, or call what makes new memory only. -/
theorem wp_region_ball {P : Program} {id : Nat} {Q : Exit → Act → World → Prop} {a : Act} {w : World} {l : List Oper} (hm : P.follows .mixedOrders = true) (hB : Region.lexB .any l.toArray = true)
    (h : wpQuiet P l.toArray (Below w.heap.size w) (fun a' => ∀ w', Below w.heap.size w w' → Q .normal a' w') l a) :
    (Code.region id l.toArray true).wp P Q a w :=
  wp_region_quiet (C := Below w.heap.size w) hm hB (below_drewN (Below.refl _ w) 1) (by simpa using h)
end Go.Proofs.YtiiiegflobihjaaGreat

/- The reference: refined. -/
namespace Go.Proofs.YtiiiegflobihjaaGreat
open Go.RowKit

section
variable {κ : Type} [DecidableEq κ]
end
theorem OI.form {w : World} {B : Nat} {v : Value} {n : Nat} {xs : List Int} (h : OI w B v n xs) (hn : 0 < n) : ∃ g cap, v = .slice (some ⟨g, 0, none⟩) n cap ∧ B ≤ g := by
  have hl := h.length
  rcases h.2 with ⟨rfl, h'⟩ | ⟨g, cap, cur, h1, h2, _⟩
  · omega
  · exact ⟨g, cap, h1, h2⟩
end Go.Proofs.YtiiiegflobihjaaGreat

/- append onto rows that a call made: at any world, and at a step of a region that draws its order; no program in sight. -/
namespace Go.Proofs.YtiiiegflobihjaaGreat
open Go.RowKit

/-- Where the new row lies. -/
def NewAt (w : World) (v v' : Value) : Prop := v'.ownBlock = v.ownBlock ∨ v'.ownBlock = some w.heap.size
section
variable {α : Type} {E : TypeId} {k : Nat} {El : World → List Value → α → Prop} {B n : Nat} {v : Value} {xs : List α}
theorem run_appX {P : Program} {T ty : TypeId} {z : Value} {bytes : Nat} (hE : ElemK P T E z k bytes) (hby : bytes ≤ 128) (hk : 0 < k) (hS : Stab E El) {w : World} {cs : List Value} {x : α}
    (hown : OwX E k El w B v n xs) (ad : Addr) (c : Nat) (hcs : cs.length = k) (hnews : ∀ j u, cs[j]? = some u → w.cell? (ad.add j) = some u) (hc1 : ∀ u ∈ cs, u.oneCell' = true) (hEl : El w cs x) (hn : n ≤ 1000000000000) (hB : B ≤ w.heap.size) :
    ∃ v' w', (Builtin.append_ #[T, T] ty #[v, .slice (some ad) 1 c]).run P w = .ok v' w' ∧ OwX E k El w' B v' (n + 1) (xs ++ [x]) ∧ w.grownBy w' v.ownBlock ∧ NewAt w v v' ∧ Below B w w' ∧ KeepX E w w' := by
  obtain ⟨i0, hi, hz0, hz1, hz2⟩ := info_parts hE.2.1
  obtain ⟨vs, k1, k2, k3, k4⟩ := hown
  have hvl : vs.length = n * k := k1.1
  have hbd : (n + 1) * bytes ≤ 140737488355328 := by
    have : (n + 1) * bytes ≤ 1000000000001 * 128 := Nat.mul_le_mul (by omega) hby
    omega
  obtain ⟨v', w', hr, h1, hg, _, h5⟩ := run_append_own_at (P := P) w B T ty E i0 z k bytes hE.1 hi hz0 hz1 hz2 hE.2.2 hk v n vs k1 ad 1 c cs (by simpa using hcs) hnews hc1 (by unfold maxLen; omega) hbd hB
  have hX : KeepX E w w' := KeepX.own k1 hg
  refine ⟨v', w', hr, ⟨vs ++ cs, h1, by simp [k2], ?_, fun j x' hj => ?_⟩, hg, h5, (Below.refl B w).grown hg hB (fun k hk => (k1.lt k hk).1), hX⟩
  · intro u hu
    rcases List.mem_append.1 hu with hu | hu
    · exact k3 u hu
    · exact hc1 u hu
  · by_cases hjn : j < n
    · rw [List.getElem?_append_left (by omega)] at hj
      have hle : j * k + k ≤ n * k := by rw [← Nat.succ_mul]; exact Nat.mul_le_mul_right _ hjn
      rw [List.drop_append_of_le_length (by omega), List.take_append_of_le_length (by rw [List.length_drop]; omega)]
      exact hS _ _ _ _ (k4 j x' hj) hX
    · rw [List.getElem?_append_right (by omega)] at hj
      have hj0 : j - xs.length = 0 := by
        have := (List.getElem?_eq_some_iff.1 hj).1
        simpa using this
      rw [hj0] at hj
      simp only [List.getElem?_cons_zero, Option.some.injEq] at hj
      subst hj
      obtain rfl : j = n := by omega
      rw [← hvl, List.drop_left, List.take_of_length_le (by omega)]
      exact hS _ _ _ _ hEl hX
/-- At the operation. -/
theorem wp_appX {P : Program} {T : TypeId} {z : Value} {bytes : Nat} (hE : ElemK P T E z k bytes) (hby : bytes ≤ 128) (hk : 0 < k) (hS : Stab E El) {w : World} {cs : List Value} {x : α} {o : Oper} {a : Act} {K : Act → World → Prop} {Q : Exit → Act → World → Prop} (s y : Operand)
    (ho : o.op = .call { callee := .builtin .append, args := #[s, y], argTypes := #[T, T] }) (hs : a.eval s = v) (hown : OwX E k El w B v n xs) (ad : Addr) (c : Nat) (hx : a.eval y = .slice (some ad) 1 c) (hcs : cs.length = k)
    (hnews : ∀ j u, cs[j]? = some u → w.cell? (ad.add j) = some u) (hc1 : ∀ u ∈ cs, u.oneCell' = true) (hEl : El w cs x) (hn : n ≤ 1000000000000) (hB : B ≤ w.heap.size)
    (h : ∀ v' w', OwX E k El w' B v' (n + 1) (xs ++ [x]) → w.grownBy w' v.ownBlock → NewAt w v v' → Below B w w' → KeepX E w w' → K (a.put o.dst v') w') : o.wp P a w K Q := by
  obtain ⟨v', w', hr, h2, h3, h4, h5, h6⟩ := run_appX (P := P) (ty := o.type) hE hby hk hS hown ad c hcs hnews hc1 hEl hn hB
  unfold Oper.wp execOp
  simp only [ho, resolve, invoke, builtin, Sem.run_bind, Sem.run_pure, Result.andThen_ok, List.map_toArray, List.map_cons, List.map_nil, hs, hx, hr]
  exact h v' w' h2 h3 h4 h5 h6
/-- At the list of a plain region's operations. -/
theorem wpList_appX {P : Program} {T : TypeId} {z : Value} {bytes : Nat} (hE : ElemK P T E z k bytes) (hby : bytes ≤ 128) (hk : 0 < k) (hS : Stab E El) {w : World} {cs : List Value} {x : α} {ops : Array Oper} {rest : List Oper} {o : Oper} {a : Act} {Q : Exit → Act → World → Prop} (hgd : o.guard = none) (s y : Operand)
    (ho : o.op = .call { callee := .builtin .append, args := #[s, y], argTypes := #[T, T] }) (hs : a.eval s = v) (hown : OwX E k El w B v n xs) (ad : Addr) (c : Nat) (hx : a.eval y = .slice (some ad) 1 c) (hcs : cs.length = k)
    (hnews : ∀ j u, cs[j]? = some u → w.cell? (ad.add j) = some u) (hc1 : ∀ u ∈ cs, u.oneCell' = true) (hEl : El w cs x) (hn : n ≤ 1000000000000) (hB : B ≤ w.heap.size)
    (h : ∀ v' w', OwX E k El w' B v' (n + 1) (xs ++ [x]) → w.grownBy w' v.ownBlock → NewAt w v v' → Below B w w' → KeepX E w w' → wpList P ops Q rest (a.put o.dst v') w') : wpList P ops Q (o :: rest) a w :=
  wpList_plain hgd fun _ hK => wp_appX hE hby hk hS s y ho hs hown ad c hx hcs hnews hc1 hEl hn hB fun v' w' h1 h2 h3 h4 h5 => hK _ _ (h v' w' h1 h2 h3 h4 h5)
/-- At a step of a region that draws its order. -/
theorem step_appX {P : Program} {T : TypeId} {z : Value} {bytes : Nat} (hE : ElemK P T E z k bytes) (hby : bytes ≤ 128) (hk : 0 < k) (hS : Stab E El) {w : World} {cs : List Value} {x : α} {ops : Array Oper} {o : Oper} {a : Act} {K : Act → World → Prop} {Q : Exit → Act → World → Prop} {R : Prop} (hgd : o.guard = none) (s y : Operand)
    (ho : o.op = .call { callee := .builtin .append, args := #[s, y], argTypes := #[T, T] }) (hs : a.eval s = v) (hown : OwX E k El w B v n xs) (ad : Addr) (c : Nat) (hx : a.eval y = .slice (some ad) 1 c) (hcs : cs.length = k)
    (hnews : ∀ j u, cs[j]? = some u → w.cell? (ad.add j) = some u) (hc1 : ∀ u ∈ cs, u.oneCell' = true) (hEl : El w cs x) (hn : n ≤ 1000000000000) (hB : B ≤ w.heap.size)
    (h : ∀ v' w', OwX E k El w' B v' (n + 1) (xs ++ [x]) → w.grownBy w' v.ownBlock → NewAt w v v' → Below B w w' → KeepX E w w' → K (a.put o.dst v') w') :
    if Region.wanted o (yielded ops a.tmps) = true then Oper.wp P o a w K Q else R := by
  rw [if_pos (by simp [Region.wanted, hgd])]
  exact wp_appX hE hby hk hS s y ho hs hown ad c hx hcs hnews hc1 hEl hn hB h
end

/-- Rows of ints are such rows. -/
def E1I (_ : World) (cs : List Value) (x : Int) : Prop := cs = [.int .i64 x]
theorem E1I.stab (E : TypeId) : Stab E E1I := fun _ _ _ _ h _ => h
theorem elemInt1 : ElemK Tryz.prog 78 3 (.int .i64 0) 1 8 := ⟨by kernel_rfl, by kernel_rfl, rfl⟩
theorem OI.owx {w : World} {B : Nat} {v : Value} {n : Nat} {xs : List Int} (h : OI w B v n xs) : OwX 3 1 E1I w B v n xs := by
  refine ⟨xs.map (Value.int .i64), h, h.length, fun u hu => ?_, fun j x hj => ?_⟩
  · obtain ⟨x, _, rfl⟩ := List.mem_map.1 hu; rfl
  · show _ = _
    rw [Nat.mul_one, ← List.map_drop, ← List.map_take]
    have hlt := (List.getElem?_eq_some_iff.1 hj).1
    have hx : xs[j] = x := (List.getElem?_eq_some_iff.1 hj).2
    rw [List.drop_eq_getElem_cons hlt, hx]; rfl
theorem OwX.oi {w : World} {B : Nat} {v : Value} {n : Nat} {xs : List Int} (h : OwX 3 1 E1I w B v n xs) : OI w B v n xs := by
  obtain ⟨vs, h1, h2, _, h4⟩ := h
  have : vs = xs.map (Value.int .i64) := by
    have hl : vs.length = n := by have := h1.1; simpa using this
    refine List.ext_getElem (by simp; omega) fun j hj1 hj2 => ?_
    have hjx : j < xs.length := by simpa using hj2
    have := h4 j xs[j] (List.getElem?_eq_getElem hjx)
    have e : ((vs.drop (j * 1)).take 1) = [Value.int .i64 xs[j]] := this
    rw [Nat.mul_one, List.drop_eq_getElem_cons hj1, List.take_succ_cons, List.take_zero] at e
    rw [List.getElem_map]
    exact (List.cons.inj e).1
  subst this
  exact h1
theorem OI.kept {w w' : World} {row : Option Nat} {B : Nat} {v : Value} {n : Nat} {xs : List Int} (h : OI w B v n xs) (hg : w.grownBy w' row) (hne : v.ownBlock = none ∨ v.ownBlock ≠ row) : OI w' B v n xs := World.ownsRow.kept h hg hne
theorem OI.other {w w' : World} {E : TypeId} {B : Nat} {v : Value} {n : Nat} {xs : List Int} (h : OI w B v n xs) (hne : 3 ≠ E) (hx : KeepX E w w') : OI w' B v n xs := ownsRow_X h hne hx
/-- Two rows that are apart. -/
def Apart (u v : Value) : Prop := ∀ a b, u.ownBlock = some a → v.ownBlock = some b → a ≠ b
theorem Apart.symm {u v : Value} (h : Apart u v) : Apart v u := fun a b ha hb e => h b a hb ha e.symm
theorem Apart.ne {u v : Value} (h : Apart u v) : u.ownBlock = none ∨ u.ownBlock ≠ v.ownBlock := by
  cases hu : u.ownBlock with
  | none => exact .inl rfl
  | some a => exact .inr fun e => h a a hu e.symm rfl
/-- What stands when a row was appended to, and then another one. -/
def Two (B : Nat) (wr : World) (m : Nat) (xs ys : List Int) (u v : Value) (wx : World) : Prop := OI wx B u m xs ∧ OI wx B v m ys ∧ Apart u v ∧ KeepX 3 wr wx ∧ Below B wr wx
end Go.Proofs.YtiiiegflobihjaaGreat

/- The nodes and arrows of package combine az keys and az elements of rows. -/
namespace Go.Proofs.YtiiiegflobihjaaGreat
open Go.RowKit Go.ChangeMaps Go.MapKept Go.WideMaps

/-- The text of a set of states. -/
def bsN (l : List Nat) : ByteArray := ⟨(l.map UInt8.ofNat).toArray⟩
theorem bsN_size (l : List Nat) : (bsN l).size = l.length := by simp [bsN, ByteArray.size]
theorem bsN_toList (l : List Nat) : (bsN l).data.toList = l.map UInt8.ofNat := by simp [bsN]
theorem bsN_inj {a b : List Nat} (ha : ∀ x ∈ a, x < 256) (hb : ∀ x ∈ b, x < 256) (h : bsN a = bsN b) : a = b := by
  have h1 : a.map UInt8.ofNat = b.map UInt8.ofNat := by rw [← bsN_toList, h, bsN_toList]
  have h2 : ∀ l : List Nat, (∀ x ∈ l, x < 256) → (l.map UInt8.ofNat).map UInt8.toNat = l := fun l hl => by
    rw [List.map_map]
    conv => rhs; rw [← List.map_id l]
    refine List.map_congr_left fun x hx => ?_
    have := hl x hx
    simp only [Function.comp, id, UInt8.toNat_ofNat']
    omega
  rw [← h2 a ha, ← h2 b hb, h1]
def ndV (x : Nd) : Value := .agg #[.int .i64 x.1, .int .i64 x.2.1, .string (bsN x.2.2)]
def SmN (x : Nd) : Prop := (-1000000 ≤ x.1 ∧ x.1 ≤ 1000000) ∧ (-1000000 ≤ x.2.1 ∧ x.2.1 ≤ 1000000) ∧ x.2.2.length ≤ 100000 ∧ ∀ b ∈ x.2.2, b < 256
theorem lawNd : Maps.Keyed Tryz.prog 62 := Maps.Keyed.of_law (deep_law_gate (by kernel_rfl) (of_decide_eq_true (by kernel_rfl)) (of_decide_eq_true (by kernel_rfl)) (by kernel_rfl) (by kernel_rfl))
theorem litZ {x : Int} (m : Nat) (h : -1000000 ≤ x ∧ x ≤ 1000000) : Tryz.prog.keyLits (m + 1) 3 [.int .i64 x] = some [.int .i64 x] := by
  unfold Program.keyLits
  simp only [und_int]
  rw [if_pos ⟨trivial, WalkArith.wf_i64 (by omega)⟩]
theorem und_str : Tryz.prog.underlying 9 = some .string := by kernel_rfl
theorem litS {s : ByteArray} (m : Nat) (h : s.size ≤ maxLen) : Tryz.prog.keyLits (m + 1) 9 [.string s] = some [.string s.data.toList] := by
  unfold Program.keyLits
  simp only [und_str]
  rw [if_pos h]
theorem keyNd {a b : Int} {s : ByteArray} (ga : -1000000 ≤ a ∧ a ≤ 1000000) (gb : -1000000 ≤ b ∧ b ≤ 1000000) (gs : s.size ≤ maxLen) : ∃ l, keyOf Tryz.prog 62 (.agg #[.int .i64 a, .int .i64 b, .string s]) = some l := by
  obtain ⟨m, hm⟩ := typesSize
  have c3 : Tryz.prog.cellsOf 62 = 3 := by kernel_rfl
  have c1 : Tryz.prog.cellsOf 3 = 1 := by kernel_rfl
  have cs : Tryz.prog.cellsOf 9 = 1 := by kernel_rfl
  have hk : Tryz.prog.keyType 62 = true := by kernel_rfl
  have uR := Tryz.underlying62
  refine ⟨.string (keyBytes [.int .i64 a, .int .i64 b, .string s.data.toList]), ?_⟩
  unfold keyOf
  simp only [uR]
  rw [if_pos (by simp [hk, Value.formed, uR, c3]), hm]
  conv => lhs; unfold Program.keyLits
  simp only [uR, c3, Value.cells]
  rw [if_pos (by exact ⟨rfl, by kernel_rfl⟩)]
  simp only [List.mapM_cons, List.mapM_nil, List.drop, List.take, c1, cs]
  rw [litZ (m + 2) ga, litZ (m + 2) gb, litS (m + 2) gs]
  rfl
theorem keyX_node : KeyX Tryz.prog 62 ndV SmN where
  law := lawNd
  has := fun p ⟨h1, h2, h3, _⟩ => keyNd h1 h2 (by rw [bsN_size]; unfold maxLen; omega)
  inj := fun x y ⟨_, _, _, hx⟩ ⟨_, _, _, hy⟩ h => by
    simp only [ndV, Value.agg.injEq, Array.mk.injEq, List.cons.injEq, Value.int.injEq, Value.string.injEq, and_true, true_and] at h
    exact Prod.ext h.1 (Prod.ext h.2.1 (bsN_inj hx hy h.2.2))
theorem umNode : Tryz.prog.underlying 109 = some (.map 62 3) := by kernel_rfl
theorem zIntC : ∀ w, (zeroValue 3).run Tryz.prog w = .ok (.int .i64 0) w := fun w => by kernel_rfl

/-- Nodes and arrows in rows. -/
def ENd (_ : World) (cs : List Value) (x : Nd) : Prop := cs = [.int .i64 x.1, .int .i64 x.2.1, .string (bsN x.2.2)]
theorem ENd.stab (E : TypeId) : Stab E ENd := fun _ _ _ _ h _ => h
def EAr (_ : World) (cs : List Value) (a : List Int × Nd) : Prop := a.1.length = 7 ∧ cs = a.1.map (Value.int .i64) ++ [.int .i64 a.2.1, .int .i64 a.2.2.1, .string (bsN a.2.2.2)]
theorem EAr.stab (E : TypeId) : Stab E EAr := fun _ _ _ _ h _ => h
theorem elemNd : ElemK Tryz.prog 110 62 (.agg #[.int .i64 0, .int .i64 0, .string ⟨#[]⟩]) 3 32 := ⟨by kernel_rfl, by kernel_rfl, rfl⟩
theorem elemAr : ElemK Tryz.prog 73 75 (.agg #[.int .i64 0, .int .i64 0, .int .i64 0, .int .i64 0, .int .i64 0, .int .i64 0, .int .i64 0, .int .i64 0, .int .i64 0, .string ⟨#[]⟩]) 10 88 := ⟨by kernel_rfl, by kernel_rfl, rfl⟩
/-- What a function of moves hands back. -/
def ArOut (W : World) (l : List (List Int × Nd)) (e : Ending) (W' : World) : Prop := ∃ u, e = .returned u ∧ OwX 75 10 EAr W' W.heap.size u l.length l ∧ Below W.heap.size W W'
/-- What the builder hands back. -/
def BdOut (w : World) (n : Int) (R : Option (List (List (List Int)))) (e : Ending) (w' : World) : Prop :=
  match R with
  | none => e = .returned (.tuple #[.agg #[.int .i64 0, .slice none 0 0], .int .i64 17]) ∧ Below w.heap.size w w'
  | some ss => ∃ u, e = .returned (.tuple #[u, .int .i64 0]) ∧ OwAdv w' u n ss ∧ Below w.heap.size w w'
theorem BdOut.no {w w' : World} {n : Int} (h : Below w.heap.size w w') : BdOut w n none (.returned (.tuple #[.agg #[.int .i64 0, .slice none 0 0], .int .i64 17])) w' := ⟨rfl, h⟩
theorem BdOut.yes {w w' : World} {n : Int} {u : Value} {ss : List (List (List Int))} (h : OwAdv w' u n ss) (hb : Below w.heap.size w w') : BdOut w n (some ss) (.returned (.tuple #[u, .int .i64 0])) w' := ⟨u, rfl, h, hb⟩
/-- A turned map leaves all cells. -/
theorem keepX_map {E : TypeId} {w : World} {b : Nat} {es : Array MapEntry} {c : Nat} (h : w.heap[b]? = some (.map es c)) (o : Obj) : KeepX E w (setBlock w b o) := fun k cs t hk _ => by
  refine setBlock_keep o fun e => ?_
  subst e
  rw [hk] at h
  cases h
theorem IM.keepX {κ : Type} {kv : κ → Value} {w : World} {b : Nat} {seen : List κ} (h : IM kv w b seen) (E : TypeId) (o : Obj) : KeepX E w (setBlock w b o) := by
  obtain ⟨es, c, hb, _⟩ := h
  exact keepX_map hb o
theorem IM.grown {κ α : Type} {kv : κ → Value} {w w' : World} {b B k n : Nat} {E : TypeId} {El : World → List Value → α → Prop} {v : Value} {xs : List α} {seen : List κ} (h : IM kv w b seen) (ho : OwX E k El w B v n xs) (hg : w.grownBy w' v.ownBlock) : IM kv w' b seen := by
  refine h.keep (hg.block b h.lt fun e => ?_)
  obtain ⟨vs, h1, _⟩ := ho
  obtain ⟨cs, hc⟩ := ownsRow_ty h1 b e.symm
  obtain ⟨es, c, hb, _⟩ := h
  rw [hc] at hb
  cases hb
theorem KeepX.size {E : TypeId} {w w' : World} {k : Nat} {cs : Array Value} {t : TypeId} (hx : KeepX E w w') (h : w.heap[k]? = some (.cells cs t)) (ht : t ≠ E) : w'.heap[k]? = some (.cells cs t) := (hx k cs t h ht).trans h
/-- A row of another type was written, then what lies behind some block. -/
theorem KeepX.behind {E : TypeId} {w wr w' : World} (h : KeepX E w wr) (hb : Below w.heap.size wr w') : KeepX E w w' := fun k cs t hk ht => by
  have hl := (Array.getElem?_eq_some_iff.1 hk).1
  exact (hb.block k hl).trans (h k cs t hk ht)
theorem setSame {w : World} {b o : Nat} {v : Value} (h : w.cell? ⟨b, o, none⟩ = some v) : w.setCell ⟨b, o, none⟩ v = w := by
  unfold World.cell? at h
  unfold World.setCell
  simp only at h ⊢
  split at h
  · rename_i c e f hb
    simp only [Option.isSome_none, Bool.false_eq_true, if_false] at h ⊢
    have h1 : c.setIfInBounds o v = c := by
      apply Array.ext_getElem?
      intro i
      rw [Array.getElem?_setIfInBounds]
      split
      · rename_i hi; subst hi
        split
        · exact h.symm
        · rename_i hn; rw [Array.getElem?_eq_none (by omega)] at h; cases h
      · rfl
    have h2 : ∀ M, M = w.heap → ({ w with heap := M } : World) = w := by rintro M rfl; rfl
    refine h2 _ ?_
    apply Array.ext_getElem?
    intro i
    rw [Array.getElem?_modify]
    split
    · rename_i hi; subst hi
      rw [hb]; simp only [Option.map_some, h1]
    · rfl
  · cases h
theorem newCells {w : World} {cs : Array Value} {t : TypeId} : ∀ j u, cs.toList[j]? = some u → (w.alloc (.cells cs t)).cell? ((⟨w.heap.size, 0, none⟩ : Addr).add j) = some u := fun j u hj => by
  rw [show (⟨w.heap.size, 0, none⟩ : Addr).add j = ⟨w.heap.size, j, none⟩ by (simp [Addr.add]; try omega), cell_of_row _ _ j _ _ _ (heap_alloc_new w _)]
  simpa using hj
theorem boxSet2' {w : World} {g : Nat} {x y u v : Value} {t : TypeId} (h : w.heap[g]? = some (.cells #[x, y] t)) : ((w.setCell ⟨g, 0, none⟩ u).setCell ⟨g, 1, none⟩ v).heap[g]? = some (.cells #[u, v] t) :=
  heap_setCell_same _ g 1 _ t v (heap_setCell_same w g 0 _ t u h)
theorem boxSet3 {w : World} {g : Nat} {x y z u v s : Value} {t : TypeId} (h : w.heap[g]? = some (.cells #[x, y, z] t)) : (((w.setCell ⟨g, 0, none⟩ u).setCell ⟨g, 1, none⟩ v).setCell ⟨g, 2, none⟩ s).heap[g]? = some (.cells #[u, v, s] t) :=
  heap_setCell_same _ g 2 _ t s (heap_setCell_same _ g 1 _ t v (heap_setCell_same w g 0 _ t u h))
/-- The cells of one node. -/
theorem ndCells {w : World} {B g n cap : Nat} {xs : List Nd} (h : OwX 62 3 ENd w B (.slice (some ⟨g, 0, none⟩) n cap) n xs) {j : Nat} {x : Nd} (hj : xs[j]? = some x) :
    w.cell? ⟨g, j * 3, none⟩ = some (.int .i64 x.1) ∧ w.cell? ⟨g, j * 3 + 1, none⟩ = some (.int .i64 x.2.1) ∧ w.cell? ⟨g, j * 3 + 2, none⟩ = some (.string (bsN x.2.2)) := by
  obtain ⟨cs, _, h2, h3⟩ := h.cells hj
  have h2 : cs = _ := h2
  subst h2
  exact ⟨h3 0 _ rfl, h3 1 _ rfl, h3 2 _ rfl⟩
/-- The cells of one arrow. -/
theorem arCells {w : World} {B g n cap : Nat} {xs : List (List Int × Nd)} (h : OwX 75 10 EAr w B (.slice (some ⟨g, 0, none⟩) n cap) n xs) {j : Nat} {r0 r1 r2 r3 r4 r5 r6 : Int} {x : Nd} (hj : xs[j]? = some ([r0, r1, r2, r3, r4, r5, r6], x)) :
    w.cell? ⟨g, j * 10, none⟩ = some (.int .i64 r0) ∧ w.cell? ⟨g, j * 10 + 1, none⟩ = some (.int .i64 r1) ∧ w.cell? ⟨g, j * 10 + 2, none⟩ = some (.int .i64 r2) ∧ w.cell? ⟨g, j * 10 + 3, none⟩ = some (.int .i64 r3) ∧ w.cell? ⟨g, j * 10 + 4, none⟩ = some (.int .i64 r4) ∧
    w.cell? ⟨g, j * 10 + 5, none⟩ = some (.int .i64 r5) ∧ w.cell? ⟨g, j * 10 + 6, none⟩ = some (.int .i64 r6) ∧ w.cell? ⟨g, j * 10 + 7, none⟩ = some (.int .i64 x.1) ∧ w.cell? ⟨g, j * 10 + 8, none⟩ = some (.int .i64 x.2.1) ∧ w.cell? ⟨g, j * 10 + 9, none⟩ = some (.string (bsN x.2.2)) := by
  obtain ⟨cs, _, ⟨_, h2⟩, h3⟩ := h.cells hj
  have h2 : cs = [.int .i64 r0, .int .i64 r1, .int .i64 r2, .int .i64 r3, .int .i64 r4, .int .i64 r5, .int .i64 r6, .int .i64 x.1, .int .i64 x.2.1, .string (bsN x.2.2)] := h2
  subst h2
  exact ⟨h3 0 _ rfl, h3 1 _ rfl, h3 2 _ rfl, h3 3 _ rfl, h3 4 _ rfl, h3 5 _ rfl, h3 6 _ rfl, h3 7 _ rfl, h3 8 _ rfl, h3 9 _ rfl⟩
end Go.Proofs.YtiiiegflobihjaaGreat

/- The reference: Partition. -/
namespace Go.Proofs.YtiiiegflobihjaaGreat
open Go.RowKit

theorem LeadOK.ofCls {ss : List (List (List Int))} (h : ClsOK ss) : LeadOK ss := fun s hs m hm => ((h.2.2.2 s hs).2 m hm).2.2
end Go.Proofs.YtiiiegflobihjaaGreat

/- The references: Same of adversaries; Classes. -/
namespace Go.Proofs.YtiiiegflobihjaaGreat
open Go.RowKit Go.ChangeMaps Go.MapKept

theorem boxAdv2 {w : World} {m n : Int} {a b : Option Addr} {l c l' c' : Nat} {w1 : World} (hw : w1 = (w.alloc (.cells #[.int .i64 m, .slice a l c] 24)).alloc (.cells #[.int .i64 n, .slice b l' c'] 24)) :
    Below w.heap.size w w1 ∧ (w1.cell? ⟨w.heap.size, 0, none⟩ = some (.int .i64 m) ∧ w1.cell? ⟨w.heap.size, 1, none⟩ = some (.slice a l c)) ∧ (w1.cell? ⟨w.heap.size + 1, 0, none⟩ = some (.int .i64 n) ∧ w1.cell? ⟨w.heap.size + 1, 1, none⟩ = some (.slice b l' c')) ∧
    w1.heap[w.heap.size + 1]? = some (.cells #[.int .i64 n, .slice b l' c'] 24) ∧ w1.heap.size = w.heap.size + 2 := by
  obtain ⟨b1, p0, p1, _⟩ := boxAdv (w := w) (n := m) (a := a) (l := l) (c := c) rfl
  obtain ⟨b2, q0, q1, q2⟩ := boxAdv hw
  rw [World.size_alloc] at q0 q1 q2
  exact ⟨bt b1 b2 b1.size, ⟨cell_kept b2 p0, cell_kept b2 p1⟩, ⟨q0, q1⟩, q2, by rw [hw]; simp⟩
set_option maxRecDepth 100000 in
set_option maxHeartbeats 3200000 in
theorem sameRef {w : World} {u v : Value} {m n : Int} {xs ys : List (List (List Int))} (hx : AdvV w u m xs) (hy : AdvV w v n ys) :
    Calls Tryz.prog 12 #[u, v] w fun e w' => e = .returned (.bool (decide (m = n) && decide (xs = ys))) ∧ Below w.heap.size w w' := by
  obtain ⟨su, rfl, hu⟩ := hx
  obtain ⟨sv, rfl, hv⟩ := hy
  obtain ⟨xa, xc, xb, xo, rfl, hxa, hxc, _⟩ := hu
  obtain ⟨ya, yc, yb, yo, rfl, hya, hyc, _⟩ := hv
  obtain ⟨W1, hW1⟩ : ∃ W1, W1 = (w.alloc (.cells #[.int .i64 m, .slice xa xs.length xc] 24)).alloc (.cells #[.int .i64 n, .slice ya ys.length yc] 24) := ⟨_, rfl⟩
  obtain ⟨hb1, ⟨p0, p1⟩, ⟨r0, r1⟩, _⟩ := boxAdv2 hW1
  by_cases hmn : m = n
  · subst hmn
    rw [decide_eq_true rfl, Bool.true_and]
    obtain ⟨B, hB⟩ : ∃ B, decide (xs = ys) = B := ⟨_, rfl⟩
    rw [hB]
    replace hB := Lib.hid hB
    by_cases hlen : xs.length = ys.length
    · rw [← hlen] at hW1 r1 ⊢
      replace hlen := Lib.hid hlen
      have hxc := Lib.hid (fun j (hj : j < xs.length) => show ∃ u, W1.cell? ⟨xb, xo + j, none⟩ = some u ∧ KS 8 W1 u (xs.getD j []) from let ⟨u, h1, h2⟩ := hxc j hj; ⟨u, cell_kept hb1 h1, h2.keep hb1⟩)
      have hyc := Lib.hid (fun j (hj : j < ys.length) => show ∃ u, W1.cell? ⟨yb, yo + j, none⟩ = some u ∧ KS 8 W1 u (ys.getD j []) from let ⟨u, h1, h2⟩ := hyc j hj; ⟨u, cell_kept hb1 h1, h2.keep hb1⟩)
      have h0 : Hid (xs.take 0 = ys.take 0) := rfl
      go_enter Tryz.func12, Tryz.ntmps12
      go_wp2_with fail
      rw [← hW1]
      replace hW1 := Lib.hid hW1
      go_wp2_with fail
      go_loopw [5] (fun iv wr => ∃ i : Nat, iv = .int .i64 i ∧ i ≤ xs.length ∧ Hid (xs.take i = ys.take i) ∧ Qt W1 wr) (fun iv _ => xs.length - (intOf iv).toNat)
      case atStart => exact ⟨0, rfl, by omega, h0, Qt.refl _⟩
      case round =>
        clear h0
        obtain ⟨i, rfl, hi, ht, n, rfl⟩ := hrel
        by_cases hlt : i < xs.length
        · obtain rfl := hxa (by omega)
          obtain rfl := hya (by rw [← hlen.out]; omega)
          have hlt' : i < ys.length := by rw [← hlen.out]; exact hlt
          obtain ⟨u1, hxi, hxk⟩ := hxc.out i hlt
          obtain ⟨u2, hyi, hyk⟩ := hyc.out i hlt'
          obtain ⟨x, hx⟩ : ∃ x, xs.getD i [] = x := ⟨_, rfl⟩
          obtain ⟨y, hy⟩ : ∃ y, ys.getD i [] = y := ⟨_, rfl⟩
          rw [hx] at hxk
          rw [hy] at hyk
          have hyes : Hid (x = y → xs.take (i + 1) = ys.take (i + 1)) := fun h => takes_next ht.out hlt hlt' (d := []) (by rw [hx, hy, h])
          have hno : Hid (x ≠ y → B = false) := fun h => by
            rw [← hB.out]
            exact decide_eq_false fun h2 => h (by rw [← hx, ← hy, h2])
          obtain ⟨ma, mc, mb, mo, rfl, hma, hmc, _⟩ := hxk
          obtain ⟨na, nc, nb, no, rfl, hna, hnc, _⟩ := hyk
          replace hmc := Lib.hid hmc
          replace hnc := Lib.hid hnc
          have hix : (i : Int) < (xs.length : Int) := by omega
          clear hx hy ht
          by_cases hl2 : x.length = y.length
          · rw [← hl2] at hyi
            have hl2' := Lib.hid hl2
            have h00 : Hid (x.take 0 = y.take 0) := rfl
            clear hl2
            go_wp2_with fail
            go_quiet (fail)
            go_wp2_with fail
            go_loopw [6] (fun jv wr => ∃ j : Nat, jv = .int .i64 j ∧ j ≤ x.length ∧ Hid (x.take j = y.take j) ∧ Qt W1 wr) (fun jv _ => x.length - (intOf jv).toNat)
            case atStart => exact ⟨0, rfl, by omega, h00, by first | exact (Qt.mk' W1 n).step nq | exact Qt.mk' W1 _⟩
            case round =>
              clear h00
              obtain ⟨j, rfl, hj, ht, k, rfl⟩ := hrel
              by_cases hltj : j < x.length
              · obtain rfl := hma (by omega)
                obtain rfl := hna (by rw [← hl2'.out]; omega)
                have hltj' : j < y.length := by rw [← hl2'.out]; exact hltj
                obtain ⟨hx8, hxj⟩ := hmc.out j hltj
                obtain ⟨hy8, hyj⟩ := hnc.out j hltj'
                obtain ⟨p, hp⟩ : ∃ p, x.getD j [] = p := ⟨_, rfl⟩
                obtain ⟨q, hq⟩ : ∃ q, y.getD j [] = q := ⟨_, rfl⟩
                rw [hp] at hx8 hxj
                rw [hq] at hy8 hyj
                obtain ⟨x0, x1, x2, x3, x4, x5, x6, x7, rfl⟩ := eight hx8
                obtain ⟨y0, y1, y2, y3, y4, y5, y6, y7, rfl⟩ := eight hy8
                obtain ⟨c0, c1, c2, c3, c4, c5, c6, c7⟩ := hxj.all8
                obtain ⟨d0, d1, d2, d3, d4, d5, d6, d7⟩ := hyj.all8
                have hjx : (j : Int) < (x.length : Int) := by omega
                clear hxj hyj hx8 hy8
                by_cases he : [x0, x1, x2, x3, x4, x5, x6, x7] = [y0, y1, y2, y3, y4, y5, y6, y7]
                · have hE : eqL [x0, x1, x2, x3, x4, x5, x6, x7] [y0, y1, y2, y3, y4, y5, y6, y7] = true := eqL_true.2 he
                  have ht2 : Hid (x.take (j + 1) = y.take (j + 1)) := takes_next ht.out hltj hltj' (by rw [hp, hq, he])
                  clear hp hq he ht
                  go_wp2_with fail
                  go_quiet (fail)
                  go_wp2_with fail
                  go_roundw
                  case rel => exact ⟨j + 1, by go_num, hltj, ht2, by first | exact (Qt.mk' W1 k).step nq | exact Qt.mk' W1 _⟩
                  case measure => simp [intOf]; omega
                · have hE : eqL [x0, x1, x2, x3, x4, x5, x6, x7] [y0, y1, y2, y3, y4, y5, y6, y7] = false := eqL_false.2 he
                  have hBf : Hid (B = false) := hno.out fun h => he (by rw [← hp, ← hq, h])
                  clear hp hq he ht hyes hno
                  go_wp2_with fail
                  go_quiet (fail)
                  go_wp2_with fail
                  go_ret
                  exact ⟨by rw [hBf.out]; rfl, by first | exact below_drewN hb1 _ | exact below_drewN (below_drewN hb1 _) _⟩
              · have ht2 : Hid (xs.take (i + 1) = ys.take (i + 1)) := hyes.out (takes_all ht.out (by omega) (by rw [← hl2'.out]; omega))
                clear hyes hno ht
                go_wp2_with fail
                go_roundw
                case rel => exact ⟨i + 1, by go_num, hlt, ht2, Qt.mk' W1 _⟩
                case measure => simp [intOf]; omega
          · have hBf : Hid (B = false) := hno.out fun h => hl2 (by rw [h])
            have h1 : ((x.length : Int) == (y.length : Int)) = false := by simp; omega
            clear hyes hno
            go_wp2_with fail
            go_quiet (fail)
            go_wp2_with fail
            go_ret
            exact ⟨by rw [hBf.out]; rfl, by first | exact below_drewN hb1 _ | exact below_drewN (below_drewN hb1 _) _⟩
        · have hBt : Hid (B = true) := by
            show _ = _
            rw [← hB.out]
            exact decide_eq_true (takes_all ht.out (by omega) (by rw [← hlen.out]; omega))
          clear ht
          go_wp2_with fail
          go_ret
          exact ⟨by rw [hBt.out]; rfl, below_drewN hb1 _⟩
    · have hBf : B = false := by rw [← hB.out]; exact decide_eq_false fun h => hlen (by rw [h])
      subst hBf
      have h1 : ((xs.length : Int) == (ys.length : Int)) = false := by simp; omega
      go_enter Tryz.func12, Tryz.ntmps12
      go_wp2_with fail
      rw [← hW1]
      go_ret
      exact ⟨rfl, hb1⟩
  · have h1 : (m == n) = false := by simp [hmn]
    rw [decide_eq_false hmn, Bool.false_and]
    go_enter Tryz.func12, Tryz.ntmps12
    go_wp2_with fail
    rw [← hW1]
    go_ret
    exact ⟨rfl, hb1⟩

end Go.Proofs.YtiiiegflobihjaaGreat

/- Texts of this claim, put together: Bu Bv Bx Rd By QA. -/
import Derived.Test.YtfihpofdoffclaaGreatDoorZa
import Derived.Lib.Builder
import Derived.Lib.AppendStr
import Derived.Lib.UnsafeStr
import Derived.Lib.Strings
import Derived.Lib.Slices
import Derived.Lib.Walk
import Derived.Laws.Externs
import Derived.Laws.IdiomCopy
import Derived.Shelf.Strings.Builder1
import Derived.StillTailTactics
import Derived.OrdersIn
import Derived.Deep.QuietTactic
import Derived.BigQuiet

/- strings.Builder's methods, with the blocks that they write. -/
namespace Go.Proofs.YtfihpofdoffclaaGreatDoor
open Go.RowKit

theorem elemByte : ElemOK Tryz.prog 52 5 (.int .u8 0) 1 := ⟨by kernel_rfl, by kernel_rfl, rfl⟩
theorem und9 : Tryz.prog.underlying 9 = some .string := by kernel_rfl
/-- The block of a row behind an append: the old one, or a new one. -/
def NewBlk (w : World) (v v' : Value) : Prop := v'.ownBlock = v.ownBlock ∨ ∀ k, v'.ownBlock = some k → w.heap.size ≤ k

theorem ownBlock_ge {w : World} {B : Nat} {E : TypeId} {v : Value} {n : Nat} {xs : List Value} (h : w.ownsRow B E 1 v n xs) : ∀ k, v.ownBlock = some k → B ≤ k := fun k hk => (h.lt k hk).1

theorem run_app_str (w : World) (ty : TypeId) (v : Value) (n : Nat) (xs : List Value) (hown : w.ownsRow 0 5 1 v n xs) (s : ByteArray) (hb : n + s.size ≤ 1000000000) :
    ∃ v' w', (Builtin.append_ #[52, 9] ty #[v, .string s]).run Tryz.prog w = .ok v' w' ∧ w'.ownsRow 0 5 1 v' (n + s.size) (xs ++ Lib.strCells s) ∧ w.grownBy w' v.ownBlock ∧ NewBlk w v v' := by
  obtain ⟨i0, hi, hz0, hz1, hz2⟩ := info_parts elemByte.2.1
  obtain ⟨v', w', hr, h1, h2, _⟩ := Lib.run_append_own_string (P := Tryz.prog) w 0 52 9 ty 5 i0 elemByte.1 und9 hi hz0 hz1 hz2 v n xs hown s (by unfold maxLen; omega) (by omega) (Nat.zero_le _)
  refine ⟨v', w', hr, h1, h2, ?_⟩
  rcases hown.2 with ⟨rfl, rfl⟩ | ⟨g, cap, cur, rfl, hbg, hg, hnc, hcm, hcs, htake⟩
  · have hx : xs = [] := List.length_eq_zero_iff.1 (by simpa using hown.1)
    subst hx
    obtain ⟨v2, w2, hr2, h3, _, _⟩ := Lib.run_append_own_string (P := Tryz.prog) w w.heap.size 52 9 ty 5 i0 elemByte.1 und9 hi hz0 hz1 hz2 (.slice none 0 0) 0 [] (World.ownsRow_nil _ _ _ _) s (by unfold maxLen; omega) (by omega) (Nat.le_refl _)
    rw [hr] at hr2
    injection hr2 with e1 e2
    subst e1
    exact .inr (ownBlock_ge h3)
  · by_cases hroom : n + s.size ≤ cap
    · have hcs' : cur.size = cap := by simpa using hcs
      have hr2 := Lib.run_append_room_string (P := Tryz.prog) w 52 9 ty 5 i0 elemByte.1 und9 hi hz1 g n cap cur hg s hroom (by omega)
      rw [hr] at hr2
      injection hr2 with e1 e2
      subst e1
      exact .inl rfl
    · have holds : ∀ j u, xs[j]? = some u → w.cell? ((⟨g, 0, none⟩ : Addr).add j) = some u := hown.cells (g := g) rfl
      have hr2 := Lib.run_append_grow_string (P := Tryz.prog) w 52 9 ty 5 i0 (.int .u8 0) elemByte.1 und9 hi hz0 ⟨g, 0, none⟩ n cap xs (by rw [hz1]; simpa using hown.1) holds s (by omega) (by omega) (by rw [hz2]; exact growslice_fits (by omega) (by omega))
      rw [hr] at hr2
      injection hr2 with e1 e2
      subst e1
      right
      intro k hk
      simp only [Value.ownBlock, Option.some.injEq] at hk
      omega

theorem run_app_one (w : World) (ty : TypeId) (v : Value) (n : Nat) (xs : List Value) (hown : w.ownsRow 0 5 1 v n xs) (ad : Addr) (c : Nat) (y : Value) (hy : w.cell? ad = some y) (hy1 : y.oneCell' = true) (hb : n + 1 ≤ 1000000000) :
    ∃ v' w', (Builtin.append_ #[52, 52] ty #[v, .slice (some ad) 1 c]).run Tryz.prog w = .ok v' w' ∧ w'.ownsRow 0 5 1 v' (n + 1) (xs ++ [y]) ∧ w.grownBy w' v.ownBlock ∧ NewBlk w v v' := by
  obtain ⟨i0, hi, hz0, hz1, hz2⟩ := info_parts elemByte.2.1
  have hnews : ∀ j u, [y][j]? = some u → w.cell? (ad.add j) = some u := by
    intro j u hj
    match j, hj with
    | 0, hj => simp at hj; subst hj; simpa [Addr.add] using hy
  have h1c : ∀ u ∈ [y], u.oneCell' = true := fun u hu => by rw [List.mem_singleton.1 hu]; exact hy1
  obtain ⟨v', w', hr, h1, h2, _⟩ := run_append_own (P := Tryz.prog) w 0 52 ty 5 i0 (.int .u8 0) 1 1 elemByte.1 hi hz0 hz1 hz2 rfl (by decide) v n xs hown ad 1 c [y] rfl hnews h1c (by unfold maxLen; omega) (by omega) (Nat.zero_le _)
  refine ⟨v', w', hr, h1, h2, ?_⟩
  rcases hown.2 with ⟨rfl, rfl⟩ | ⟨g, cap, cur, rfl, hbg, hg, hnc, hcm, hcs, htake⟩
  · have hx : xs = [] := List.length_eq_zero_iff.1 (by simpa using hown.1)
    subst hx
    obtain ⟨v2, w2, hr2, h3, _, _⟩ := run_append_own (P := Tryz.prog) w w.heap.size 52 ty 5 i0 (.int .u8 0) 1 1 elemByte.1 hi hz0 hz1 hz2 rfl (by decide) (.slice none 0 0) 0 [] (World.ownsRow_nil _ _ _ _) ad 1 c [y] rfl hnews h1c (by unfold maxLen; omega) (by omega) (Nat.le_refl _)
    rw [hr] at hr2
    injection hr2 with e1 e2
    subst e1
    exact .inr (ownBlock_ge h3)
  · by_cases hroom : n + 1 ≤ cap
    · obtain ⟨w2, hr2, _, _⟩ := run_append_fits (P := Tryz.prog) w 0 52 ty 5 i0 1 elemByte.1 hi hz1 g n cap xs hown ad 1 c [y] rfl hnews h1c hroom
      rw [hr] at hr2
      injection hr2 with e1 e2
      subst e1
      exact .inl rfl
    · have holds : ∀ j u, xs[j]? = some u → w.cell? ((⟨g, 0, none⟩ : Addr).add j) = some u := hown.cells (g := g) rfl
      have hr2 := run_append_grow (P := Tryz.prog) w 52 ty 5 i0 (.int .u8 0) elemByte.1 hi hz0 ⟨g, 0, none⟩ n cap xs (by rw [hz1]; simpa using hown.1) holds ad 1 c [y] (by rw [hz1]; rfl) hnews (by omega) (by omega) (growslice_fits (by omega) (by rw [hz2]; omega))
      rw [hr] at hr2
      injection hr2 with e1 e2
      subst e1
      right
      intro k hk
      simp only [Value.ownBlock, Option.some.injEq] at hk
      omega
end Go.Proofs.YtfihpofdoffclaaGreatDoor

/- The walks of strings.Builder's methods. -/
namespace Go.Proofs.YtfihpofdoffclaaGreatDoor
open Go.RowKit

theorem und106 : Tryz.prog.underlying 116 = some (.pointer 118) := by kernel_rfl
theorem und142 : Tryz.prog.underlying 186 = some .unsafePointer := by kernel_rfl
theorem size109 : (Tryz.prog.info? 118).map (·.size) = some 2 := by kernel_rfl
theorem lies109 : liesAt Tryz.prog Tryz.prog.depth 118 (2 / Tryz.prog.cellsOf 118) 0 118 1 = true := by kernel_rfl

/-- A builder that has been written, or one that has not. -/
def BA (w : World) (b : Nat) (p v : Value) (bs : List Value) : Prop := w.heap[b]? = some (.cells #[p, v] 118 (0, 0)) ∧ w.ownsRow 0 5 1 v bs.length bs ∧ v.ownBlock ≠ some b
def selfP (b : Nat) : Value := .pointer (some ⟨b, 0, none⟩)

theorem two_set0 {w : World} {b : Nat} {p v u : Value} {t : TypeId} (h : w.heap[b]? = some (.cells #[p, v] t (0, 0))) : (w.setCell ⟨b, 0, none⟩ u).heap[b]? = some (.cells #[u, v] t (0, 0)) := by
  rw [heap_setCell_same w b 0 #[p, v] t u h]; rfl
theorem two_set1 {w : World} {b : Nat} {p v u : Value} {t : TypeId} (h : w.heap[b]? = some (.cells #[p, v] t (0, 0))) : (w.setCell ⟨b, 1, none⟩ u).heap[b]? = some (.cells #[p, u] t (0, 0)) := by
  rw [heap_setCell_same w b 1 #[p, v] t u h]; rfl
theorem BA.c0 {w : World} {b : Nat} {p v : Value} {bs : List Value} (h : BA w b p v bs) : w.cell? ⟨b, 0, none⟩ = some p := by rw [cell_of_row w b 0 _ _ _ h.1]; rfl
theorem BA.c1 {w : World} {b : Nat} {p v : Value} {bs : List Value} (h : BA w b p v bs) : w.cell? ⟨b, 1, none⟩ = some v := by rw [cell_of_row w b 1 _ _ _ h.1]; rfl
theorem BA.fz {w : World} {b : Nat} {p v : Value} {bs : List Value} (h : BA w b p v bs) (j : Nat) : w.frozen? ⟨b, j, none⟩ = false := frozen_of_row w b j _ _ h.1
theorem BA.lt {w : World} {b : Nat} {p v : Value} {bs : List Value} (h : BA w b p v bs) : b < w.heap.size := (Array.getElem?_eq_some_iff.1 h.1).1

set_option maxRecDepth 100000 in
set_option maxHeartbeats 800000 in
theorem bCheckFresh {w : World} {b : Nat} {v : Value} {bs : List Value} (h : BA w b (.pointer none) v bs) :
    Calls Tryz.prog 122 #[.pointer (some ⟨b, 0, none⟩)] w fun e w' => e = .returned (.tuple #[]) ∧ w' = w.setCell ⟨b, 0, none⟩ (selfP b) := by
  obtain ⟨j, hj, hjs⟩ := Option.map_eq_some_iff.1 size109
  have h0 := h.c0
  have hfz := h.fz 0
  have hsh : w.shape? b = some (118, 2) := by simp [World.shape?, h.1]
  go_enter Tryz.func122, Tryz.ntmps122
  go_wp2
  rw [Lib.run_to_unsafe w ⟨b, 0, none⟩ und106 und142 hj (by rw [hjs]; decide) hsh (Nat.zero_lt_succ 1)]
  simp only [Result.andThen]
  rw [Oper.upon_value]
  go_wp2
  rw [run_callFunc_extern Tryz.func142 (by kernel_rfl) (by kernel_rfl) (by kernel_rfl) (e := Extern.AbiNoEscape.same) (by kernel_rfl)]
  rw [Lib.run_noEscape]
  simp only [Result.andThen]
  rw [Oper.upon_value]
  go_wp2
  rw [Lib.run_from_unsafe w ⟨b, 0, none⟩ und142 und106 hj hsh lies109]
  simp only [Result.andThen]
  rw [Oper.upon_value]
  go_wp2
  go_end0
  exact ⟨rfl, rfl⟩

set_option maxRecDepth 100000 in
set_option maxHeartbeats 800000 in
theorem bCheckUsed {w : World} {b : Nat} {v : Value} {bs : List Value} (h : BA w b (.pointer (some ⟨b, 0, none⟩)) v bs) :
    Calls Tryz.prog 122 #[.pointer (some ⟨b, 0, none⟩)] w fun e w' => e = .returned (.tuple #[]) ∧ w' = w := by
  obtain ⟨j, hj, hjs⟩ := Option.map_eq_some_iff.1 size109
  have h0 := h.c0
  go_enter Tryz.func122, Tryz.ntmps122
  go_wp2
  rw [Lib.run_neq_ptr_same w _ und106 hj]
  go_wp2
  go_end0
  exact ⟨rfl, rfl⟩

def PP (b : Nat) (p : Value) : Prop := p = .pointer none ∨ p = .pointer (some ⟨b, 0, none⟩)

theorem BA.used {w : World} {b : Nat} {p v : Value} {bs : List Value} (h : BA w b p v bs) (q : Value) : BA (w.setCell ⟨b, 0, none⟩ q) b q v bs :=
  ⟨two_set0 h.1, h.2.1.kept (row := some b) ⟨rfl, rfl, rfl, by simp [World.setCell], fun k _ hk => Below.heap_setCell _ _ _ _ (fun e => hk (by simp [e]))⟩ (.inr h.2.2), h.2.2⟩

/-- copyCheck. -/
theorem bCheck {w : World} {b : Nat} {p v : Value} {bs : List Value} (h : BA w b p v bs) (hp : PP b p) :
    Calls Tryz.prog 122 #[.pointer (some ⟨b, 0, none⟩)] w fun e w' => e = .returned (.tuple #[]) ∧ BA w' b (selfP b) v bs ∧ Only (fun k => k = b) w w' := by
  rcases hp with rfl | rfl
  · refine (bCheckFresh h).mono ?_
    rintro e w' ⟨rfl, rfl⟩
    exact ⟨rfl, h.used _, (Only.refl (fun k => k = b) w).setCell (p := ⟨b, 0, none⟩) rfl _⟩
  · refine (bCheckUsed h).mono ?_
    rintro e w' ⟨rfl, rfl⟩
    exact ⟨rfl, h, Only.refl _ _⟩

theorem BA.put {w : World} {b : Nat} {p v v' : Value} {bs' : List Value} (hb : w.heap[b]? = some (.cells #[p, v] 118 (0, 0))) (hown : w.ownsRow 0 5 1 v' bs'.length bs') : BA (w.setCell ⟨b, 1, none⟩ v') b p v' bs' := by
  have hne : v'.ownBlock ≠ some b := Lib.ownBlock_ne hown hb (by decide)
  exact ⟨two_set1 hb, hown.kept (row := some b) ⟨rfl, rfl, rfl, by simp [World.setCell], fun k _ hk => Below.heap_setCell _ _ _ _ (fun e => hk (by simp [e]))⟩ (.inr hne), hne⟩

theorem wpAppStr {w : World} {ops : Array Oper} {rest : List Oper} {o : Oper} {a : Act} {Q : Exit → Act → World → Prop} (hgd : o.guard = none) (s x : Operand)
    (ho : o.op = .call { callee := .builtin .append, args := #[s, x], argTypes := #[52, 9] }) (v : Value) (n : Nat) (xs : List Value) (hs : a.eval s = v) (hown : w.ownsRow 0 5 1 v n xs) (t : ByteArray) (hx : a.eval x = .string t) (hb : n + t.size ≤ 1000000000)
    (h : ∀ v' w', w'.ownsRow 0 5 1 v' (n + t.size) (xs ++ Lib.strCells t) → w.grownBy w' v.ownBlock → NewBlk w v v' → wpList Tryz.prog ops Q rest (a.put o.dst v') w') : wpList Tryz.prog ops Q (o :: rest) a w := by
  refine wpList_plain hgd fun K hK => ?_
  obtain ⟨v', w', hr, h2, h3, h4⟩ := run_app_str w o.type v n xs hown t hb
  unfold Oper.wp execOp
  simp only [ho, resolve, invoke, builtin, Sem.run_bind, Sem.run_pure, Result.andThen_ok, List.map_toArray, List.map_cons, List.map_nil, hs, hx, hr]
  exact hK _ _ (h v' w' h2 h3 h4)

theorem wpAppOne {w : World} {ops : Array Oper} {rest : List Oper} {o : Oper} {a : Act} {Q : Exit → Act → World → Prop} (hgd : o.guard = none) (s x : Operand)
    (ho : o.op = .call { callee := .builtin .append, args := #[s, x], argTypes := #[52, 52] }) (v : Value) (n : Nat) (xs : List Value) (hs : a.eval s = v) (hown : w.ownsRow 0 5 1 v n xs) (y : Value) (t : TypeId) (hy1 : y.oneCell' = true) (c : Nat) (hx : a.eval x = .slice (some ⟨w.heap.size, 0, none⟩) 1 c) (hb : n + 1 ≤ 1000000000)
    (h : ∀ v' w', w'.ownsRow 0 5 1 v' (n + 1) (xs ++ [y]) → w.grownBy w' v.ownBlock → NewBlk w v v' → wpList Tryz.prog ops Q rest (a.put o.dst v') w') : wpList Tryz.prog ops Q (o :: rest) a (w.alloc (.cells #[y] t)) := by
  refine wpList_plain hgd fun K hK => ?_
  obtain ⟨v', w', hr, h2, h3, h4⟩ := run_app_one (w.alloc (.cells #[y] t)) o.type v n xs (hown.alloc _) ⟨w.heap.size, 0, none⟩ c y (by simp) hy1 hb
  unfold Oper.wp execOp
  simp only [ho, resolve, invoke, builtin, Sem.run_bind, Sem.run_pure, Result.andThen_ok, List.map_toArray, List.map_cons, List.map_nil, hs, hx, hr]
  refine hK _ _ (h v' w' h2 (grownBy_alloc_trans h3) ?_)
  rcases h4 with h4 | h4
  · exact .inl h4
  · exact .inr fun k hk => by have := h4 k hk; simp at this; omega

theorem grown_only {w0 w w' : World} {b : Nat} {v : Value} (h : Only (fun k => k = b) w0 w) (hg : w.grownBy w' v.ownBlock) : Only (fun k => k = b ∨ v.ownBlock = some k) w0 w' :=
  ⟨hg.os.trans h.os, hg.tape.trans h.tape, hg.output.trans h.output, Nat.le_trans h.size hg.size, fun k hk hn => (hg.block k (Nat.lt_of_lt_of_le hk h.size) (fun e => hn (.inr e.symm))).trans (h.same k hk (fun e => hn (.inl e)))⟩

set_option maxRecDepth 100000 in
set_option maxHeartbeats 1600000 in
/-- WriteString. -/
theorem bWriteString {w : World} {b : Nat} {p v : Value} {bs : List Value} (h : BA w b p v bs) (hp : PP b p) (s : ByteArray) (hn : bs.length + s.size ≤ 1000000000) :
    Calls Tryz.prog 81 #[.pointer (some ⟨b, 0, none⟩), .string s] w fun e w' => e = .returned (.tuple #[.int .i64 s.size, .nilIface]) ∧
      ∃ v', BA w' b (selfP b) v' (bs ++ Lib.strCells s) ∧ Only (fun k => k = b ∨ v.ownBlock = some k) w w' ∧ NewBlk w v v' := by
  have e98 : ∀ args w, (callFunc 122 args).run Tryz.prog w = .ok (.enter 122 args) w := enters_of Tryz.func122 (by kernel_rfl) rfl
  go_enter Tryz.func81, Tryz.ntmps81
  go_wp2_with (go_at_call 122; refine (bCheck h hp).mono ?_)
  rintro e w1 ⟨rfl, h1, ho1⟩
  have c0 := h1.c0
  have c1 := h1.c1
  go_wp2_with (at_builtin; refine wpAppStr rfl _ _ rfl _ _ _ rfl h1.2.1 s rfl hn ?_)
  intro v' w2 hown' hgrow hnew
  have hb2 : w2.heap[b]? = some (.cells #[selfP b, v] 118 (0, 0)) := (hgrow.block b h1.lt (fun e => h1.2.2 e.symm)).trans h1.1
  have d1 : w2.cell? ⟨b, 1, none⟩ = some v := by rw [cell_of_row w2 b 1 _ _ _ hb2]; rfl
  have f1 : w2.frozen? ⟨b, 1, none⟩ = false := frozen_of_row w2 b 1 _ _ hb2
  obtain ⟨ao, n', cap, rfl⟩ : ∃ ao n' cap, v' = .slice ao n' cap := by
    rcases hown'.2 with ⟨hv, _⟩ | ⟨g, cap, cur, hv, _⟩
    · exact ⟨_, _, _, hv⟩
    · exact ⟨_, _, _, hv⟩
  go_wp2
  go_ret2
  refine ⟨rfl, _, BA.put hb2 (by simpa [Lib.strCells_length] using hown'), (grown_only ho1 hgrow).setCell (.inl rfl) _, ?_⟩
  rcases hnew with h4 | h4
  · exact .inl h4
  · exact .inr fun k hk => Nat.le_trans ho1.size (h4 k hk)

end Go.Proofs.YtfihpofdoffclaaGreatDoor

/- strconv.Itoa of small numbers. -/
namespace Go.Proofs.YtfihpofdoffclaaGreatDoor
open Go.RowKit

def digz : ByteArray := { data := #[48, 49, 50, 51, 52, 53, 54, 55, 56, 57, 97, 98, 99, 100, 101, 102, 103, 104, 105, 106, 107, 108, 109, 110, 111, 112, 113, 114, 115, 116, 117, 118, 119, 120, 121, 122] }
def digI (p : Int) : ByteArray := digz.extract p.toNat (p + 1).toNat

set_option maxRecDepth 100000 in
set_option maxHeartbeats 400000 in
theorem smallCall (p : Int) (w : World) (h0 : 0 ≤ p) (h9 : p < 10) : Calls Tryz.prog 159 #[.int .i64 p] w fun e w' => e = .returned (.string (digI p)) ∧ w = w' := by
  go_enter Tryz.func159, Tryz.ntmps159
  go_wp2
  go_ret
  exact ⟨rfl, rfl⟩

set_option maxRecDepth 100000 in
set_option maxHeartbeats 400000 in
theorem fmtIntCall (p : Int) (w : World) (h0 : 0 ≤ p) (h9 : p < 10) : Calls Tryz.prog 143 #[.int .i64 p, .int .i64 10] w fun e w' => e = .returned (.string (digI p)) ∧ Qt w w' := by
  have e120 : ∀ args w, (callFunc 159 args).run Tryz.prog w = .ok (.enter 159 args) w := enters_of Tryz.func159 (by kernel_rfl) rfl
  go_enter Tryz.func143, Tryz.ntmps143
  go_wp2_with (go_at_call 159; refine (smallCall p _ h0 h9).mono ?_; rintro _ _ ⟨rfl, rfl⟩)
  go_ret
  exact ⟨rfl, Qt.refl _⟩

set_option maxRecDepth 100000 in
set_option maxHeartbeats 400000 in
theorem itoa1 (p : Int) (w : World) (h0 : 0 ≤ p) (h9 : p < 10) : Calls Tryz.prog 123 #[.int .i64 p] w fun e w' => e = .returned (.string (digI p)) ∧ Qt w w' := by
  have e115 : ∀ args w, (callFunc 143 args).run Tryz.prog w = .ok (.enter 143 args) w := enters_of Tryz.func143 (by kernel_rfl) rfl
  go_enter Tryz.func123, Tryz.ntmps123
  go_wp2_with (go_at_call 143; refine (fmtIntCall p _ h0 h9).mono ?_; rintro _ wr ⟨rfl, hq⟩)
  go_ret
  exact ⟨rfl, hq⟩

set_option maxRecDepth 100000 in
set_option maxHeartbeats 400000 in
/-- strconv.Itoa. -/
theorem itoaCall (p : Int) (w : World) (h0 : 0 ≤ p) (h9 : p < 10) : Calls Tryz.prog 82 #[.int .i64 p] w fun e w' => e = .returned (.string (digI p)) ∧ Qt w w' := by
  have e99 : ∀ args w, (callFunc 123 args).run Tryz.prog w = .ok (.enter 123 args) w := enters_of Tryz.func123 (by kernel_rfl) rfl
  go_enter Tryz.func82, Tryz.ntmps82
  go_wp2_with (go_at_call 123; refine (itoa1 p _ h0 h9).mono ?_; rintro _ wr ⟨rfl, hq⟩)
  go_ret
  exact ⟨rfl, hq⟩
end Go.Proofs.YtfihpofdoffclaaGreatDoor

/- A region that draws its order, within a round of a loop over a function: what is shown outside of rounds holds there, too. -/
namespace Go.Proofs.YtfihpofdoffclaaGreatDoor
open Go.RowKit

theorem opIn_of_op {P : Program} {l0 : Nat} {o : Oper} {a : Act} {w : World} {K : Act → World → Prop} {Q : Exit → Act → World → Prop} (hd : ∀ c, o.op ≠ .defer c) (h : o.wp P a w K Q) :
    o.wpIn (Fence.wide.inRound l0) 0 P a w K Q := by
  refine ⟨fun _ _ => trivial, ?_⟩
  unfold Oper.wp at h
  rw [Oper.semAt_eq _ _ _ hd]
  generalize (execOp a.eval o).run P w = r at h ⊢
  have hdep : (Fence.wide.inRound l0).depth.isSome = true → 1 ≤ 0 := fun h => by simp [Fence.wide] at h
  cases r with
  | halt x w' => cases x <;> first | exact h | exact h.elim
  | ok nx w' =>
    cases nx with
    | enter f args => exact ⟨hdep, CallsIn.inRound l0 (callsIn_wide.2 h)⟩
    | row r args => exact ⟨hdep, fun c cs _ => by
        obtain ⟨v, w2, hr, hs⟩ := h c cs
        exact ⟨v, w2, hr, stepsIn_wide.2 hs⟩⟩
    | _ => first | exact h | exact h.elim

theorem anyIn_of_any {P : Program} {l0 : Nat} {md : Region.Mode} {ops : Array Oper} {Q : Exit → Act → World → Prop} (hnd : ∀ (i : Nat) o, ops[i]? = some o → ∀ c, o.op ≠ .defer c) (hQ : ¬ LetsOut Q) :
    ∀ (fuel : Nat) (listed : Array Bool) (a : Act) (w : World), wpAny P md ops Q fuel listed a w → wpAnyIn (Fence.wide.inRound l0) 0 P md ops Q fuel listed a w
  | 0, _, _, _, h => h
  | fuel + 1, listed, a, w, h => by
    refine ⟨h.1, fun i hi => ?_⟩
    have h1 := h.2 i hi
    unfold wpOp at h1
    unfold wpOpIn
    cases ho : ops[i]? with
    | none => rw [ho] at h1; exact anyIn_of_any hnd hQ fuel _ _ _ h1
    | some o =>
      rw [ho] at h1
      simp only at h1 ⊢
      by_cases hw : Region.wanted o (yielded ops a.tmps) = true
      · rw [if_pos hw] at h1 ⊢
        refine opIn_of_op (hnd i o ho) ?_
        exact Oper.wp_mono (fun a w hh => anyIn_of_any hnd hQ fuel _ a w hh) (h1.resolve_right (fun hh => hQ hh.2))
      · rw [if_neg hw] at h1 ⊢
        exact ⟨fun _ _ => trivial, anyIn_of_any hnd hQ fuel _ _ _ h1⟩

/-- No operation is a defer statement. -/
def noDefer (l : List Oper) : Bool := l.all fun o => match o.op with | .defer _ => false | _ => true
theorem noDefer_get {l : List Oper} (h : noDefer l = true) : ∀ (i : Nat) o, l.toArray[i]? = some o → ∀ c, o.op ≠ .defer c := by
  intro i o ho c hc
  have hm : o ∈ l := by rw [List.getElem?_toArray] at ho; exact List.mem_of_getElem? ho
  have := List.all_eq_true.1 h o hm
  rw [hc] at this
  cases this

/-- Reads and quiet calls ahead of one operation that writes, in a round. -/
theorem wpIn_region_tail {P : Program} {l0 id : Nat} {Q : Exit → Act → World → Prop} {a : Act} {w : World} {l : List Oper} (n : Nat) (hm : P.follows .mixedOrders = true) (hB : Region.lexTailB .any l.toArray n = true)
    (hd : noDefer l = true) (hQ : ¬ LetsOut Q) (h : wpStill P l.toArray w.drew (fun a' => wpList P l.toArray Q (l.drop n) a' w.drew) (l.take n) a) :
    (Code.region id l.toArray true).wpIn (Fence.wide.inRound l0) 0 P Q a w := by
  refine wpIn_region_any hm (anyIn_of_any (noDefer_get hd) hQ _ _ _ _ ?_)
  simp only [Region.lexTailB, Bool.and_eq_true, decide_eq_true_eq] at hB
  obtain ⟨⟨⟨⟨hsel, hn⟩, hs⟩, hc⟩, hlex⟩ := hB
  have t1 : (l.take n).length = n := by simp at hn ⊢; omega
  have t2 : (l.drop n).length = l.toArray.size - n := by simp
  have start : HeadInv .any l.toArray n (Array.replicate l.toArray.size false) :=
    ⟨by simp, fun j oj _ hh => (by rw [getD_replicate_false] at hh; cases hh), fun t _ ht => getD_in (by simpa using ht) (getD_replicate_false _ _)⟩
  have head := wpAnyL_lex (md := .any) (g := l.toArray.size - n) hsel hs hc hn (l.take n) 0 _ a (fun j hj => by
    rw [t1] at hj
    simp [hj]) (by simpa using t1) start (by rw [t1]; exact hlex) h
  have all := wpAny_of_head (Q' := Q) (g := l.toArray.size - n) (fun listed a' hL => by
    have := wpAny_of_seq (md := .any) (Q' := Q) (l.drop n) n listed a' w.drew (fun j => by simp [List.getElem?_drop]) (by rw [t2]; exact hL.1) hL.2
    rwa [t2] at this) _ _ _ head
  rw [t1, show n + (l.toArray.size - n) = l.toArray.size by omega] at all
  exact all

/-- An operation that does nothing, in the place of another. -/
def mask (o : Oper) : Oper := { dst := none, op := .move (.const undef), type := o.type, pos := o.pos, after := o.after, guard := none }
def maskLast (n : Nat) (l : List Oper) : List Oper := l.take n ++ (l.drop n).map mask
/-- Operation n is the last, waits for all others, and every operation waits for earlier ones only. -/
def qtB (n : Nat) (l : List Oper) : Bool :=
  decide (l.length = n + 1) && Region.sinkB .any l.toArray n && (List.range l.length).all (fun i => match l[i]? with | some o => o.after.all fun e => decide (e.on < i) | none => true) &&
  Region.lexB .any (maskLast n l).toArray && ((l.drop n).all fun o => o.guard.isNone)

theorem maskLast_get {n : Nat} {l : List Oper} (i : Nat) : (maskLast n l)[i]? = if i < n then l[i]? else (l[i]?).map mask := by
  unfold maskLast
  by_cases h : i < (l.take n).length
  · rw [List.getElem?_append_left h]
    have : i < n := by rw [List.length_take] at h; omega
    rw [if_pos this, List.getElem?_take, if_pos this]
  · rw [List.getElem?_append_right (by omega), List.getElem?_map, List.getElem?_drop]
    rw [List.length_take] at h ⊢
    by_cases hi : i < n
    · rw [if_pos hi]
      have : l.length ≤ i := by omega
      rw [List.getElem?_eq_none (by omega : l.length ≤ n + (i - min n l.length)), List.getElem?_eq_none this]; rfl
    · rw [if_neg hi]
      by_cases hn : n ≤ l.length
      · rw [show n + (i - min n l.length) = i by omega]
      · rw [List.getElem?_eq_none (by omega : l.length ≤ n + (i - min n l.length)), List.getElem?_eq_none (by omega : l.length ≤ i)]
theorem maskLast_length (n : Nat) (l : List Oper) : (maskLast n l).length = l.length := by simp [maskLast]; omega
theorem ready_mask (md : Region.Mode) (n : Nat) (l : List Oper) (listed : Array Bool) : Region.ready md (maskLast n l).toArray listed = Region.ready md l.toArray listed := by
  unfold Region.ready
  simp only [List.size_toArray, maskLast_length, List.getElem?_toArray, maskLast_get]
  congr 1
  funext i
  by_cases h : i < n
  · rw [if_pos h]
  · rw [if_neg h]
    cases l[i]? <;> rfl

theorem wpQuiet_append {P : Program} {ops : Array Oper} {C : World → Prop} {Q : Act → Prop} : ∀ {l1 l2 : List Oper} {a : Act}, wpQuiet P ops C (fun a => wpQuiet P ops C Q l2 a) l1 a → wpQuiet P ops C Q (l1 ++ l2) a
  | [], _, _, h => h
  | o :: l1, l2, a, h => by
    rw [List.cons_append]
    unfold wpQuiet at h ⊢
    split
    · rename_i hw
      rw [if_pos hw] at h
      exact Oper.quiet_mono (fun a hh => wpQuiet_append hh) h
    · rename_i hw
      rw [if_neg hw] at h
      exact wpQuiet_append h

theorem wpQuiet_mono' {P : Program} {ops : Array Oper} {C : World → Prop} {Q Q' : Act → Prop} (hq : ∀ a, Q a → Q' a) : ∀ {l : List Oper} {a : Act}, wpQuiet P ops C Q l a → wpQuiet P ops C Q' l a
  | [], _, h => hq _ h
  | o :: l, a, h => by
    unfold wpQuiet at h ⊢
    split
    · rename_i hw
      rw [if_pos hw] at h
      exact Oper.quiet_mono (fun a hh => wpQuiet_mono' hq hh) h
    · rename_i hw
      rw [if_neg hw] at h
      exact wpQuiet_mono' hq h

theorem any_of_quiet_last {P : Program} {C : World → Prop} {Qa : Act → Prop} {Q : Exit → Act → World → Prop} {n : Nat} {l : List Oper} {last : Oper} (hlen : l.length = n + 1) (hlast : l[n]? = some last) (hg : last.guard = none)
    (hs : Region.sinkB .any l.toArray n = true) (hback : ∀ (i : Nat) (o : Oper), l[i]? = some o → ∀ e ∈ o.after, e.on < i)
    (hQ : ∀ a w, C w → Qa a → last.wp P a w (fun a w => Q .normal a w) Q) (hng : ∀ (i : Nat) (o : Oper), l[i]? = some o → ∀ tmps, Region.wanted o (yielded (maskLast n l).toArray tmps) = Region.wanted o (yielded l.toArray tmps)) :
    ∀ (fuel : Nat) (listed : Array Bool) (a : Act) (w : World), HeadInv .any l.toArray n listed → C w → wpAnyQ P .any (maskLast n l).toArray C Qa fuel listed a → 1 ≤ fuel → wpAny P .any l.toArray Q fuel listed a w
  | 0, _, _, _, _, _, _, h1 => absurd h1 (by omega)
  | fuel + 1, listed, a, w, inv, hC, h, _ => by
    have hc : Region.chainB .any l.toArray n = true := by
      refine List.all_eq_true.2 fun t ht => ?_
      rw [List.mem_range, List.size_toArray] at ht
      simp only [Bool.or_eq_true, decide_eq_true_eq]
      left; omega
    have hn : n < l.toArray.size := by simp; omega
    -- something is ready
    have hne : Region.ready .any l.toArray listed ≠ [] := by
      have key : ∀ k, k < l.length → listed.getD k true = false → ∃ j, j ∈ Region.ready .any l.toArray listed := by
        intro k
        induction k using Nat.strongRecOn with
        | _ k ih =>
          intro hk hun
          by_cases hall : ∀ e ∈ (l[k]'hk).after, Region.binds .any e = true → listed.getD e.on false = true
          · exact ⟨k, mem_ready.2 ⟨hun, l[k], by rw [List.getElem?_toArray, List.getElem?_eq_getElem hk], hall⟩⟩
          · obtain ⟨e, he⟩ := Classical.not_forall.1 hall
            obtain ⟨he1, he2⟩ := Classical.not_imp.1 he
            obtain ⟨_, he3⟩ := Classical.not_imp.1 he2
            have hlt := hback k l[k] (List.getElem?_eq_getElem hk) e he1
            have hsz : e.on < listed.size := by rw [inv.size]; simp; omega
            exact ih e.on hlt (by omega) (getD_in hsz (by simpa using he3))
      obtain ⟨j, hj⟩ := key n (by omega) (inv.tail n (Nat.le_refl _) hn)
      intro h0
      rw [h0] at hj; cases hj
    refine ⟨fun h0 => absurd h0 hne, fun i hi => ?_⟩
    have hi' : i ∈ Region.ready .any (maskLast n l).toArray listed := by rw [ready_mask]; exact hi
    have hq := h.2 i hi'
    obtain ⟨hiun, oi, hoi, _⟩ := mem_ready.1 hi
    have hilt : i < l.length := by have := (Array.getElem?_eq_some_iff.1 hoi).1; simpa using this
    by_cases hin : i < n
    · have hoi' : (maskLast n l).toArray[i]? = some oi := by rw [List.getElem?_toArray, maskLast_get, if_pos hin, ← List.getElem?_toArray]; exact hoi
      have hq2 : qOp P l.toArray C i (wpAnyQ P .any (maskLast n l).toArray C Qa fuel (listed.setIfInBounds i true)) a := by
        unfold qOp at hq ⊢
        rw [hoi'] at hq
        rw [hoi]
        simp only at hq ⊢
        rw [hng i oi (by simpa using hoi)] at hq
        exact hq
      have hf : 1 ≤ fuel := by
        cases fuel with
        | succ f => omega
        | zero =>
          obtain ⟨v, hy, hK⟩ := yieldsIn_of_qOp hoi hq2
          have hnr := hK.1
          rw [ready_mask] at hnr
          have inv2 := inv.set hi hin
          have key : ∀ k, k < l.length → (listed.setIfInBounds i true).getD k true = false → ∃ j, j ∈ Region.ready .any l.toArray (listed.setIfInBounds i true) := by
            intro k
            induction k using Nat.strongRecOn with
            | _ k ih =>
              intro hk hun
              by_cases hall : ∀ e ∈ (l[k]'hk).after, Region.binds .any e = true → (listed.setIfInBounds i true).getD e.on false = true
              · exact ⟨k, mem_ready.2 ⟨hun, l[k], by rw [List.getElem?_toArray, List.getElem?_eq_getElem hk], hall⟩⟩
              · obtain ⟨e, he⟩ := Classical.not_forall.1 hall
                obtain ⟨he1, he2⟩ := Classical.not_imp.1 he
                obtain ⟨_, he3⟩ := Classical.not_imp.1 he2
                have hlt := hback k l[k] (List.getElem?_eq_getElem hk) e he1
                have hsz : e.on < (listed.setIfInBounds i true).size := by rw [inv2.size]; simp; omega
                exact ih e.on hlt (by omega) (getD_in hsz (by simpa using he3))
          obtain ⟨j, hj⟩ := key n (by omega) (inv2.tail n (Nat.le_refl _) hn)
          rw [hnr] at hj; cases hj
      exact wpOp_of_qOp hC (fun a' w' hC' hK => any_of_quiet_last hlen hlast hg hs hback hQ hng fuel _ a' w' (inv.set hi hin) hC' hK hf) hq2
    · obtain rfl : i = n := by omega
      have hol : oi = last := by
        rw [List.getElem?_toArray, hlast] at hoi
        exact (Option.some.inj hoi).symm
      subst hol
      -- all others are listed
      have hall : ∀ j, j < i → listed.getD j true = true := by
        intro j hj
        cases hb : listed.getD j true with
        | true => rfl
        | false => exact absurd hi (tail_waits hs hc hn inv _ j rfl hj hb i (Nat.le_refl _))
      have hend : Region.ready .any l.toArray (listed.setIfInBounds i true) = [] := by
        cases hR : Region.ready .any l.toArray (listed.setIfInBounds i true) with
        | nil => rfl
        | cons j r =>
          have hj : j ∈ Region.ready .any l.toArray (listed.setIfInBounds i true) := by rw [hR]; simp
          obtain ⟨hjun, oj, hoj, _⟩ := mem_ready.1 hj
          have hjlt : j < l.length := by have := (Array.getElem?_eq_some_iff.1 hoj).1; simpa using this
          by_cases hji : i = j
          · subst hji
            have : i < listed.size := by rw [inv.size]; simpa using hilt
            simp [this] at hjun
          · rw [getD_set_ne true hji] at hjun
            rw [hall j (by omega)] at hjun; cases hjun
      have hKa : Qa a := by
        unfold qOp at hq
        have hml : (maskLast i l).toArray[i]? = some (mask oi) := by rw [List.getElem?_toArray, maskLast_get, if_neg (by omega), hlast]; rfl
        rw [hml] at hq
        simp only [Region.wanted, mask, if_true] at hq
        obtain ⟨v, _, hK⟩ := hq
        have hK' : wpAnyQ P .any (maskLast i l).toArray C Qa fuel (listed.setIfInBounds i true) a := hK
        cases fuel with
        | zero => exact hK'.2
        | succ f => exact hK'.1 (by rw [ready_mask]; exact hend)
      unfold wpOp
      rw [hoi]
      simp only [Region.wanted, hg, if_true]
      refine .inl (Oper.wp_mono (fun a' w' hh => ?_) (hQ a w hC hKa))
      cases fuel with
      | zero => exact ⟨hend, hh⟩
      | succ f => exact ⟨fun _ => hh, fun j hj => by rw [hend] at hj; cases hj⟩

/-- No operation is guarded. -/
def noGuard (l : List Oper) : Bool := l.all fun o => o.guard.isNone
theorem noGuard_get {l : List Oper} (h : noGuard l = true) {i : Nat} {o : Oper} (ho : l[i]? = some o) : o.guard = none := by
  have := List.all_eq_true.1 h o (List.mem_of_getElem? ho)
  simpa using this

/-- Reads and calls that draw at most, ahead of one last operation: any order. -/
theorem any_qtail {P : Program} {Q : Exit → Act → World → Prop} {a : Act} {w : World} {l : List Oper} (n : Nat) (hB : qtB n l = true) (hg : noGuard l = true)
    (h : wpQuiet P (maskLast n l).toArray (fun w' => ∃ k, w' = w.drewN k) (fun a' => ∀ k, wpList P l.toArray Q (l.drop n) a' (w.drewN k)) (l.take n) a) (hQ : ¬ LetsOut Q) :
    wpAny P .any l.toArray Q l.toArray.size (Array.replicate l.toArray.size false) a w.drew := by
  simp only [qtB, Bool.and_eq_true, decide_eq_true_eq] at hB
  obtain ⟨⟨⟨⟨hlen, hs⟩, hb⟩, hlex⟩, _⟩ := hB
  have hback : ∀ (i : Nat) (o : Oper), l[i]? = some o → ∀ e ∈ o.after, e.on < i := by
    intro i o ho e he
    have := List.all_eq_true.1 hb i (List.mem_range.2 (List.getElem?_eq_some_iff.1 ho).1)
    rw [ho] at this
    simp only at this
    exact of_decide_eq_true (Array.all_eq_true'.1 this e he)
  have hlt : n < l.length := by omega
  have hlast : l[n]? = some l[n] := List.getElem?_eq_getElem hlt
  have hdrop : l.drop n = [l[n]] := by rw [List.drop_eq_getElem_cons hlt, List.drop_eq_nil_of_le (by omega)]
  have hgl : l[n].guard = none := noGuard_get hg hlast
  have start : HeadInv .any l.toArray n (Array.replicate l.toArray.size false) :=
    ⟨by simp, fun j oj _ hh => (by rw [getD_replicate_false] at hh; cases hh), fun t _ ht => getD_in (by simpa using ht) (getD_replicate_false _ _)⟩
  refine any_of_quiet_last (C := fun w' => ∃ k, w' = w.drewN k) (Qa := fun a' => ∀ k, wpList P l.toArray Q (l.drop n) a' (w.drewN k)) hlen hlast hgl hs hback ?_ ?_ _ _ _ _ start ⟨1, rfl⟩ ?_ (by simp; omega)
  · rintro a w' ⟨k, rfl⟩ hh
    have h1 := hh k
    rw [hdrop] at h1
    unfold wpList at h1
    rw [if_pos (by simp [Region.wanted, hgl])] at h1
    exact Oper.wp_mono (fun a w hh => hh) (h1.resolve_right (fun hh => hQ hh.2))
  · intro i o ho tmps
    simp [Region.wanted, noGuard_get hg ho]
  · simp only [Region.lexB, Bool.and_eq_true] at hlex
    have hml : (maskLast n l) = l.take n ++ [mask l[n]] := by rw [maskLast, hdrop]; rfl
    have hw : wpQuiet P (maskLast n l).toArray (fun w' => ∃ k, w' = w.drewN k) (fun a' => ∀ k, wpList P l.toArray Q (l.drop n) a' (w.drewN k)) (maskLast n l) a := by
      conv => arg 5; rw [hml]
      refine wpQuiet_append ?_
      refine wpQuiet_mono' ?_ h
      intro a' hh
      unfold wpQuiet
      rw [if_pos (by simp [Region.wanted, mask])]
      exact ⟨undef, fun w' _ => ⟨rfl, rfl⟩, hh⟩
    have := wpAnyQ_lex (C := fun w' => ∃ k, w' = w.drewN k) (md := .any) hlex.1 (maskLast n l) 0 (Array.replicate (maskLast n l).toArray.size false) a (by simp) (by simpa using hlex.2) hw
    simpa [maskLast_length] using this

theorem wpIn_region_qtail {P : Program} {l0 id : Nat} {Q : Exit → Act → World → Prop} {a : Act} {w : World} {l : List Oper} (n : Nat) (hm : P.follows .mixedOrders = true) (hB : qtB n l = true) (hg : noGuard l = true)
    (hd : noDefer l = true) (hQ : ¬ LetsOut Q) (h : ∀ ops', wpQuiet P ops' (fun w' => ∃ k, w' = w.drewN k) (fun a' => ∀ k, wpList P l.toArray Q (l.drop n) a' (w.drewN k)) (l.take n) a) :
    (Code.region id l.toArray true).wpIn (Fence.wide.inRound l0) 0 P Q a w :=
  wpIn_region_any hm (anyIn_of_any (noDefer_get hd) hQ _ _ _ _ (any_qtail n hB hg (h _) hQ))
end Go.Proofs.YtfihpofdoffclaaGreatDoor

/- (*strings.Builder).String of a builder that holds a byte. -/
namespace Go.Proofs.YtfihpofdoffclaaGreatDoor
open Go.RowKit

theorem Only.freeze {D : Nat → Prop} {A B : World} (h : Only D A B) {p : Addr} (hp : D p.block) (n : Nat) : Only D A (B.freeze p n) := by
  unfold World.freeze
  split
  · exact h
  · exact ⟨h.os, h.tape, h.output, by simpa using h.size, fun i hi hd => by
      rw [← h.same i hi hd]
      simp only [Array.getElem?_modify]
      have hne : ¬ p.block = i := by rintro rfl; exact hd hp
      rw [if_neg hne]⟩

set_option maxRecDepth 100000 in
set_option maxHeartbeats 2000000 in
theorem bString {w : World} {b : Nat} {p v : Value} {l : List UInt8} (h : BA w b p v (Lib.byteCells l)) (h0 : l ≠ []) :
    Calls Tryz.prog 83 #[.pointer (some ⟨b, 0, none⟩)] w fun e w' => e = .returned (.string ⟨l.toArray⟩) ∧ Only (fun k => v.ownBlock = some k) w w' := by
  obtain ⟨hbk, hown, hne⟩ := h
  have hl0 : l.length ≠ 0 := by simpa using h0
  rw [Lib.byteCells_length] at hown
  obtain ⟨g, cap, cur, rfl, hbg, hg, hnc, hcm, hcs, htake⟩ : ∃ g cap cur, v = .slice (some ⟨g, 0, none⟩) l.length cap ∧ 0 ≤ g ∧ w.heap[g]? = some (.cells cur 5 (0, 0)) ∧ l.length ≤ cap ∧ cap ≤ maxLen ∧ cur.size = cap * 1 ∧ cur.toList.take (l.length * 1) = Lib.byteCells l := by
    rcases hown.2 with ⟨_, hz⟩ | ⟨g, cap, cur, hv, r⟩
    · exact absurd hz hl0
    · exact ⟨g, cap, cur, hv, r⟩
  have c1 : w.drew.cell? ⟨b, 1, none⟩ = some (.slice (some ⟨g, 0, none⟩) l.length cap) := by
    have : w.drew.heap[b]? = some (.cells #[p, .slice (some ⟨g, 0, none⟩) l.length cap] 118 (0, 0)) := hbk
    rw [Lib.cell_of_heap this]; rfl
  have hSD : (Builtin.unsafeSliceData_ #[52] 169 #[.slice (some ⟨g, 0, none⟩) l.length cap]).run Tryz.prog w.drew = .ok (.pointer (some ⟨g, 0, none⟩)) w.drew :=
    Lib.run_unsafeSliceData_row _ _ _ _ _ _ (by omega)
  have hUS : (Builtin.unsafeString_ #[169, 3] 9 #[.pointer (some ⟨g, 0, none⟩), .int .i64 l.length]).run Tryz.prog w.drew = .ok (.string ⟨l.toArray⟩) (w.drew.freeze ⟨g, 0, none⟩ l.length) := by
    refine Lib.run_unsafeString_row w.drew 169 3 9 5 (by kernel_rfl) (by kernel_rfl) g cur.size (by have hg' : w.drew.heap[g]? = some (.cells cur 5 (0, 0)) := hg; simp [World.shape?, hg']) l h0 (by omega) (by unfold maxLen at hcm; omega) ?_
    intro j x hx
    have := hown.cells (g := g) rfl j (.int .u8 x.toNat) (by simp [Lib.byteCells, hx])
    exact this
  clear hcs htake hown
  go_enter Tryz.func83, Tryz.ntmps83
  go_wp2
  go_region
  all_goals (go_wp2; go_ret; exact ⟨rfl, ((Only.refl (fun k => some g = some k) w).drewN 1).freeze (p := ⟨g, 0, none⟩) rfl _⟩)
end Go.Proofs.YtfihpofdoffclaaGreatDoor

/- Labels by first occurrence: plain lists. -/
namespace Go.Proofs.YtfihpofdoffclaaGreatDoor
section
variable {κ : Type} [DecidableEq κ]

/-- The different keys, in the order of their first occurrence, behind those that were seen. -/
def dd : List κ → List κ → List κ
  | seen, [] => seen
  | seen, k :: r => dd (if k ∈ seen then seen else seen ++ [k]) r
/-- Labels. -/
def lblGo : List κ → List κ → List Nat
  | _, [] => []
  | seen, k :: r => seen.idxOf k :: lblGo (if k ∈ seen then seen else seen ++ [k]) r
def lbl (ks : List κ) : List Nat := lblGo [] ks

theorem dd_sub : ∀ {ks seen : List κ} {x : κ}, x ∈ seen → x ∈ dd seen ks
  | [], _, _, h => h
  | k :: r, seen, x, h => by rw [dd]; exact dd_sub (by split; exact h; exact List.mem_append_left _ h)
theorem dd_mem : ∀ {ks seen : List κ} {x : κ}, x ∈ ks → x ∈ dd seen ks
  | k :: r, seen, x, h => by
    rw [dd]
    rcases List.mem_cons.1 h with rfl | h
    · exact dd_sub (by split; assumption; simp)
    · exact dd_mem h
theorem mem_dd : ∀ {ks seen : List κ} {x : κ}, x ∈ dd seen ks → x ∈ seen ∨ x ∈ ks
  | [], _, _, h => .inl h
  | k :: r, seen, x, h => by
    rw [dd] at h
    rcases mem_dd h with h | h
    · split at h
      · exact .inl h
      · rcases List.mem_append.1 h with h | h
        · exact .inl h
        · exact .inr (by rw [List.mem_singleton.1 h]; simp)
    · exact .inr (by simp [h])
theorem dd_nodup : ∀ {ks seen : List κ}, seen.Nodup → (dd seen ks).Nodup
  | [], _, h => h
  | k :: r, seen, h => by
    rw [dd]
    refine dd_nodup ?_
    split
    · exact h
    · rename_i hk
      rw [List.nodup_append]
      refine ⟨h, by simp, fun a ha b hb => ?_⟩
      rw [List.mem_singleton.1 hb]
      rintro rfl
      exact hk ha
theorem dd_pre : ∀ (ks seen : List κ), ∃ t, dd seen ks = seen ++ t
  | [], seen => ⟨[], by simp [dd]⟩
  | k :: r, seen => by
    rw [dd]
    split
    · exact dd_pre r seen
    · obtain ⟨t, ht⟩ := dd_pre r (seen ++ [k])
      exact ⟨[k] ++ t, by rw [ht, List.append_assoc]⟩
theorem dd_app : ∀ (ks ks' seen : List κ), dd seen (ks ++ ks') = dd (dd seen ks) ks'
  | [], _, _ => rfl
  | k :: r, ks', seen => by rw [List.cons_append, dd, dd, dd_app r]
theorem dd_le : ∀ (ks seen : List κ), (dd seen ks).length ≤ seen.length + ks.length
  | [], seen => by simp [dd]
  | k :: r, seen => by
    rw [dd]
    refine Nat.le_trans (dd_le r _) ?_
    split <;> simp <;> omega
theorem dd_idem : ∀ {ks seen : List κ}, (∀ x ∈ ks, x ∈ seen) → dd seen ks = seen
  | [], _, _ => rfl
  | k :: r, seen, h => by
    rw [dd, if_pos (h k (by simp))]
    exact dd_idem fun x hx => h x (by simp [hx])
theorem idxOf_pre {seen t : List κ} {k : κ} (h : k ∈ seen) : (seen ++ t).idxOf k = seen.idxOf k := by
  rw [List.idxOf_append, if_pos h]
theorem lblGo_eq : ∀ (ks seen : List κ), lblGo seen ks = ks.map (fun k => (dd seen ks).idxOf k)
  | [], _ => rfl
  | k :: r, seen => by
    rw [lblGo, List.map_cons, dd, lblGo_eq r]
    congr 1
    by_cases h : k ∈ seen
    · rw [if_pos h]
      obtain ⟨t, ht⟩ := dd_pre r seen
      rw [ht, idxOf_pre h]
    · rw [if_neg h]
      obtain ⟨t, ht⟩ := dd_pre r (seen ++ [k])
      rw [ht, List.append_assoc, List.idxOf_append, if_neg h]
      have : (([k] ++ t).idxOf k) = 0 := by simp
      rw [this, List.idxOf_eq_length h, Nat.zero_add]
theorem lbl_length (ks : List κ) : (lbl ks).length = ks.length := by rw [lbl, lblGo_eq]; simp
theorem lbl_getD {ks : List κ} {i : Nat} (h : i < ks.length) : (lbl ks).getD i 0 = (dd [] ks).idxOf ks[i] := by
  rw [lbl, lblGo_eq]; simp [h]
theorem idxOf_inj {l : List κ} {x y : κ} (hx : x ∈ l) (hy : y ∈ l) (h : l.idxOf x = l.idxOf y) : x = y := by
  have h1 := List.getElem_idxOf (List.idxOf_lt_length_of_mem hx)
  have h2 := List.getElem_idxOf (List.idxOf_lt_length_of_mem hy)
  rw [← h1, ← h2]
  congr 1
theorem lbl_iff {ks : List κ} {i j : Nat} (hi : i < ks.length) (hj : j < ks.length) : (lbl ks).getD i 0 = (lbl ks).getD j 0 ↔ ks[i] = ks[j] := by
  rw [lbl_getD hi, lbl_getD hj]
  exact ⟨idxOf_inj (dd_mem (List.getElem_mem hi)) (dd_mem (List.getElem_mem hj)), fun h => by rw [h]⟩
theorem lbl_lt {ks : List κ} {i : Nat} (hi : i < ks.length) : (lbl ks).getD i 0 < (dd [] ks).length := by
  rw [lbl_getD hi]; exact List.idxOf_lt_length_of_mem (dd_mem (List.getElem_mem hi))
end

theorem mem_pairs {κ κ' : Type} {S : List (κ × κ')} {p : κ × κ'} (h : ∀ q ∈ S, q.1 = p.1 ↔ q.2 = p.2) : p.1 ∈ S.map Prod.fst ↔ p.2 ∈ S.map Prod.snd := by
  rw [List.mem_map, List.mem_map]
  exact ⟨fun ⟨q, hq, e⟩ => ⟨q, hq, (h q hq).1 e⟩, fun ⟨q, hq, e⟩ => ⟨q, hq, (h q hq).2 e⟩⟩
section
variable {κ κ' : Type} [DecidableEq κ] [DecidableEq κ']
theorem idxOf_pairs : ∀ {S : List (κ × κ')} {p : κ × κ'}, (∀ q ∈ S, q.1 = p.1 ↔ q.2 = p.2) → (S.map Prod.fst).idxOf p.1 = (S.map Prod.snd).idxOf p.2
  | [], _, _ => rfl
  | q :: S, p, h => by
    have h1 := h q (by simp)
    have h2 := idxOf_pairs (S := S) (p := p) fun q hq => h q (by simp [hq])
    rw [List.map_cons, List.map_cons, List.idxOf_cons, List.idxOf_cons, h2]
    by_cases e : q.1 = p.1
    · have e' := h1.1 e
      simp [e, e']
    · have e' : ¬ q.2 = p.2 := fun h => e (h1.2 h)
      rw [show (q.1 == p.1) = false by simpa using e, show (q.2 == p.2) = false by simpa using e']
theorem mem_skip {α : Type} {S zs : List α} {p x : α} (h : x ∈ S ++ zs) : x ∈ S ++ p :: zs := by
  rcases List.mem_append.1 h with h | h
  · exact List.mem_append_left _ h
  · exact List.mem_append_right _ (List.mem_cons_of_mem _ h)
theorem mem_shift {α : Type} {S zs : List α} {p x : α} (h : x ∈ S ++ [p] ++ zs) : x ∈ S ++ p :: zs := by
  rwa [List.append_assoc] at h
theorem lblGo_pairs : ∀ {zs S : List (κ × κ')}, (∀ p ∈ S ++ zs, ∀ q ∈ S ++ zs, q.1 = p.1 ↔ q.2 = p.2) → lblGo (S.map Prod.fst) (zs.map Prod.fst) = lblGo (S.map Prod.snd) (zs.map Prod.snd)
  | [], _, _ => rfl
  | p :: zs, S, h => by
    have hp : ∀ q ∈ S, q.1 = p.1 ↔ q.2 = p.2 := fun q hq => h p (by simp) q (by simp [hq])
    rw [List.map_cons, List.map_cons, lblGo, lblGo, idxOf_pairs hp]
    congr 1
    by_cases hm : p.1 ∈ S.map Prod.fst
    · rw [if_pos hm, if_pos ((mem_pairs hp).1 hm)]
      exact lblGo_pairs fun p' hp' q hq => h p' (mem_skip hp') q (mem_skip hq)
    · rw [if_neg hm, if_neg (fun h => hm ((mem_pairs hp).2 h))]
      have := lblGo_pairs (zs := zs) (S := S ++ [p]) fun p' hp' q hq => h p' (mem_shift hp') q (mem_shift hq)
      rw [List.map_append, List.map_append] at this
      exact this
/-- Labels depend only on which keys are equal. -/
theorem lbl_congr {ks : List κ} {ks' : List κ'} (hl : ks.length = ks'.length) (h : ∀ i j (hi : i < ks.length) (hj : j < ks.length), ks[i] = ks[j] ↔ ks'[i]'(hl ▸ hi) = ks'[j]'(hl ▸ hj)) : lbl ks = lbl ks' := by
  have key := lblGo_pairs (zs := ks.zip ks') (S := []) (by
    intro p hp q hq
    simp only [List.nil_append] at hp hq
    obtain ⟨i, hi, rfl⟩ := List.mem_iff_getElem.1 hp
    obtain ⟨j, hj, rfl⟩ := List.mem_iff_getElem.1 hq
    rw [List.length_zip] at hi hj
    rw [List.getElem_zip, List.getElem_zip]
    exact h j i (by omega) (by omega))
  rw [List.map_nil, List.map_nil, List.map_fst_zip (by omega), List.map_snd_zip (by omega)] at key
  exact key
/-- .. and so does their number. -/
theorem dd_len_pairs : ∀ {zs S : List (κ × κ')}, (∀ p ∈ S ++ zs, ∀ q ∈ S ++ zs, q.1 = p.1 ↔ q.2 = p.2) → (dd (S.map Prod.fst) (zs.map Prod.fst)).length = (dd (S.map Prod.snd) (zs.map Prod.snd)).length
  | [], S, _ => by simp [dd]
  | p :: zs, S, h => by
    have hp : ∀ q ∈ S, q.1 = p.1 ↔ q.2 = p.2 := fun q hq => h p (by simp) q (by simp [hq])
    rw [List.map_cons, List.map_cons, dd, dd]
    by_cases hm : p.1 ∈ S.map Prod.fst
    · rw [if_pos hm, if_pos ((mem_pairs hp).1 hm)]
      exact dd_len_pairs fun p' hp' q hq => h p' (mem_skip hp') q (mem_skip hq)
    · rw [if_neg hm, if_neg (fun h => hm ((mem_pairs hp).2 h))]
      have := dd_len_pairs (zs := zs) (S := S ++ [p]) fun p' hp' q hq => h p' (mem_shift hp') q (mem_shift hq)
      rw [List.map_append, List.map_append] at this
      exact this
end
end Go.Proofs.YtfihpofdoffclaaGreatDoor
